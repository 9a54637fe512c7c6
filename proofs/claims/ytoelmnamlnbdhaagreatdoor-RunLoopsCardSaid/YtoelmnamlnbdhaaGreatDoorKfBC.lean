/-
  Part of a proof of RunLoops: contracts of functions that the claim reaches, and plain lemmas.
-/
import Derived.Test.YtoelmnamlnbdhaaGreatDoorKfBB
import Derived.Test.YtoelmnamlnbdhaaGreatDoorKfAP
set_option linter.all false
namespace Go.Proofs.YtoelmnamlnbdhaaGreatDoor
open Go.RowKit
open Hg (GT gl Bd)
theorem ownsRow_fr {S : Nat → Prop} {w w' : World} {base : Nat} {e : TypeId} {size : Nat} {v : Value} {n : Nat} {xs : List Value} (h : w.ownsRow base e size v n xs) (hf : Fr S w w') (hb : ∀ q, v.ownBlock = some q → ¬ S q) : w'.ownsRow base e size v n xs := by
 obtain ⟨h1, h2⟩ := h
 refine ⟨h1, ?_⟩
 rcases h2 with h2 | ⟨g, cap, cur, hv, hg, hh, h3⟩
 ·
  exact .inl h2
 ·
  exact .inr ⟨g, cap, cur, hv, hg, hf.at_ hh (hb g (by rw [hv]; rfl)), h3⟩
theorem own_ne {w : World} {b1 b2 n1 n2 s1 s2 : Nat} {e1 e2 : TypeId} {v1 v2 : Value} {x1 x2 : List Value} (h1 : w.ownsRow b1 e1 s1 v1 n1 x1) (h2 : w.ownsRow b2 e2 s2 v2 n2 x2) (he : e1 ≠ e2) : ∀ q, v1.ownBlock = some q → v2.ownBlock ≠ some q := by
 intro q k1 k2
 rcases h1.2 with ⟨h0, _⟩ | ⟨g, cap, cur, hv, hg, hh, _⟩
 ·
  rw [h0] at k1; cases k1
 rcases h2.2 with ⟨h0, _⟩ | ⟨g', cap', cur', hv', hg', hh', _⟩
 ·
  rw [h0] at k2; cases k2
 rw [hv] at k1
 rw [hv'] at k2
 injection k1 with k1
 injection k2 with k2
 have k1 : g = q := k1
 have k2 : g' = q := k2
 subst k1
 subst k2
 rw [hh] at hh'
 injection hh' with hh'
 injection hh' with _ hh' _
 exact he hh'
theorem treeM_ne : (41 : TypeId) ≠ 104 := by decide
structure Low (l : List GT) (nb : Nat) (Z : Nat → Prop) (B : Nat) : Prop where
 tree : ∀ s ∈ l, s.b < B
 nb : nb < B
 z : ∀ q, Z q → q < B
section
variable {l : List GT} {nb : Nat} {Z : Nat → Prop} {B : Nat} {ids : Nat → Nat} {av : Value} {next : Nat} {fv mv : Value} {ub : Nat} {cv sv : Value} {qs : List Nat} {ρ : Nat → Nat} {σ : Hg.NmSt} {w w' : World}
theorem NS.size (h : NS l nb Z B ids av next fv mv ub cv sv qs ρ σ w) : B ≤ w.heap.size := by have := h.ul; have := h.us.lt; omega
theorem NS.refUp (h : NS l nb Z B ids av next fv mv ub cv sv qs ρ σ w) (hL : Low l nb Z B) (hA : Amb l nb Z) {t : GT} (ht : t ∈ l) (v : Nat) :
 NS l nb Z B ids av next fv mv ub cv sv qs (upd ρ t.b (ids v)) { σ with refs := (t.b, v) :: σ.refs } (w.setCell ⟨t.b, 4, none⟩ (.int .u64 (ids v : Int))) := by
 have hg := grown_set (grown_refl w (some t.b)) 4 (.int .u64 (ids v : Int))
 have htB := hL.tree t ht
 have hq := (Sc.get h.sc).2.1
 have hu := h.ul
 refine ⟨(hg.block nb h.nm.lt (fun e => by injection e with e; exact hA.ne t ht e.symm)).trans h.nm, h.us.keep (hg.block ub h.us.lt (fun e => by injection e with e; omega)), h.ul, ?_, ?_, h.sc.keep (fun q hq' => hg.block q (hq q hq').2.2.1 (fun e => by injection e with e; have := (hq q hq').1; omega)), fun s hs => (h.node s hs).setRef (ids v) (hA.nz t ht), h.here, fun b => ?_, h.kin⟩
 ·
  refine h.cs.kept hg ?_
  cases hv : cv.ownBlock with
  | none => exact .inl rfl
  | some q => exact .inr (fun e => by injection e with e; have := (h.cs.lt q hv).1; omega)
 ·
  refine h.ss.kept hg ?_
  cases hv : sv.ownBlock with
  | none => exact .inl rfl
  | some q => exact .inr (fun e => by injection e with e; have := (h.ss.lt q hv).1; omega)
 ·
  show upd ρ t.b (ids v) b = ((gl ((t.b, v) :: σ.refs) b).map ids).getD 0
  rw [Hg.gl_cons]
  by_cases e : t.b = b
  ·
   subst e
   rw [upd_same, if_pos (by simp)]
   rfl
  ·
   rw [upd_other _ _ (fun h => e h.symm), if_neg (by simpa using e)]
   exact h.ref b
theorem NS.rest (h : NS l nb Z B ids av next fv mv ub cv sv qs ρ σ w) (hL : Low l nb Z B) (hA : Amb l nb Z) {D : Nat → Prop} (hf : Fr D w w') (hD : ∀ q, D q → q = nb ∨ B ≤ q ∧ ∀ es ck, w.heap[q]? ≠ some (.map es ck)) :
 SMap w' ub (usedM σ.used) ∧ Sc w' B ub qs σ.scope ∧ ∀ s ∈ l, NodeR w' ids ρ nilK Z s := by
 have hnB := hL.nb
 have hu := h.ul
 have hq := (Sc.get h.sc).2.1
 refine ⟨h.us.fr hf (fun e => ?_), h.sc.keep (fun q hq' => ?_), fun s hs => (h.node s hs).frr hf (fun e => ?_) (fun q hz e => ?_)⟩
 ·
  obtain ⟨es, ck, hum⟩ := h.us.obj
  rcases hD _ e with e | e
  ·
   omega
  ·
   exact e.2 es ck hum
 ·
  obtain ⟨q1, q2, q3, es, ck, q4⟩ := hq q hq'
  refine hf.block q q3 (fun e => ?_)
  rcases hD _ e with e | e
  ·
   omega
  ·
   exact e.2 es ck q4
 ·
  have := hL.tree s hs
  rcases hD _ e with e | e
  ·
   exact hA.ne s hs e
  ·
   omega
 ·
  have := hL.z q hz
  rcases hD _ e with e | e
  ·
   exact hA.nbz (e ▸ hz)
  ·
   omega
theorem NS.callUp (h : NS l nb Z B ids av next fv mv ub cv sv qs ρ σ w) (hL : Low l nb Z B) (hA : Amb l nb Z) {t : GT} (ht : t ∈ l) {Wd W3 : World} {cv' : Value} (hb : Below w.heap.size w Wd)
 (own3 : W3.ownsRow B 41 1 cv' (σ.calls.length + 1) (σ.calls.map ptrV ++ [ptrV t])) (g3 : Wd.grownBy W3 cv.ownBlock) :
 NS l nb Z B ids av next fv mv ub cv' sv qs ρ { σ with calls := σ.calls ++ [t] } (W3.setCell ⟨nb, 4, none⟩ cv') ∧ Fr (NOwn l nb B) w (W3.setCell ⟨nb, 4, none⟩ cv') := by
 have hnB := hL.nb
 have hcl : ∀ q, cv.ownBlock = some q → B ≤ q ∧ q < w.heap.size := h.cs.lt
 have hf0 : Fr (fun q => cv.ownBlock = some q) w W3 := (Fr.of_below (D := fun q => cv.ownBlock = some q) hb).step g3 (fun q e => .inl e)
 have hf : Fr (fun q => q = nb ∨ cv.ownBlock = some q) w (W3.setCell ⟨nb, 4, none⟩ cv') := (hf0.imp (fun q _ e => .inr e)).set (p := ⟨nb, 4, none⟩) (.inl (.inl rfl)) _
 have hnm : W3.heap[nb]? = some (.cells (nmCells av next fv mv cv (.map (some ub)) sv) 51 (0, 0)) := hf0.at_ h.nm (fun e => by have := (hcl nb e).1; omega)
 obtain ⟨r1, r2, r3⟩ := h.rest hL hA hf (fun q e => by
  rcases e with e | e
  ·
   exact .inl e
  ·
   refine .inr ⟨(hcl q e).1, fun es ck hm => ?_⟩
   rcases own_not_map h.cs hm with e' | e'
   ·
    rw [e'] at e; cases e
   ·
    exact e' e)
 refine ⟨⟨heap_setCell_same hnm _, r1, h.ul, ?_, ownsRow_fr h.ss hf (fun q e e' => ?_), r2, r3, h.here, h.ref, fun c hc => ?_⟩, hf.imp (fun q _ e => ?_)⟩
 ·
  have : (σ.calls ++ [t]).length = σ.calls.length + 1 := by simp
  show World.ownsRow _ B _ 1 cv' (σ.calls ++ [t]).length ((σ.calls ++ [t]).map ptrV)
  rw [this, List.map_append]
  refine own3.kept (grown_set (grown_refl W3 (some nb)) 4 cv') ?_
  cases hv : cv'.ownBlock with
  | none => exact .inl rfl
  | some q => exact .inr (fun e => by injection e with e; have := (own3.lt q hv).1; omega)
 ·
  rcases e' with e' | e'
  ·
   have := (h.ss.lt q e).1; omega
  ·
   exact own_ne h.cs h.ss treeM_ne q e' e
 ·
  rcases List.mem_append.1 hc with hc | hc
  ·
   exact h.kin c hc
  ·
   simp at hc; rw [hc]; exact ht
 ·
  rcases e with e | e
  ·
   exact .inl (.inl e)
  ·
   exact .inr (hcl q e).1
theorem NS.push (h : NS l nb Z B ids av next fv mv ub cv sv qs ρ σ w) (hL : Low l nb Z B) (hA : Amb l nb Z) {W3 : World} {sv' : Value}
 (own3 : W3.ownsRow B 104 1 sv' (qs.length + 1) (qs.reverse.map mapV ++ [mapV w.heap.size])) (g3 : ((w.alloc (.map #[] 0)).alloc (.cells #[.map (some w.heap.size)] 104)).grownBy W3 sv.ownBlock) :
 NS l nb Z B ids av next fv mv ub cv sv' (w.heap.size :: qs) ρ { σ with scope := [] :: σ.scope } (W3.setCell ⟨nb, 6, none⟩ sv') ∧ Fr (NOwn l nb B) w (W3.setCell ⟨nb, 6, none⟩ sv') := by
 have hnB := hL.nb
 have hBs := h.size
 have hb1 : Below w.heap.size w (w.alloc (.map #[] 0)) := (Below.refl _ _).alloc (Nat.le_refl _) _
 have hb : Below w.heap.size w ((w.alloc (.map #[] 0)).alloc (.cells #[.map (some w.heap.size)] 104)) := hb1.alloc (by simp) _
 have hcl : ∀ q, sv.ownBlock = some q → B ≤ q ∧ q < w.heap.size := h.ss.lt
 have hf0 : Fr (fun q => sv.ownBlock = some q) w W3 := (Fr.of_below (D := fun q => sv.ownBlock = some q) hb).step g3 (fun q e => .inl e)
 have hf : Fr (fun q => q = nb ∨ sv.ownBlock = some q) w (W3.setCell ⟨nb, 6, none⟩ sv') := (hf0.imp (fun q _ e => .inr e)).set (p := ⟨nb, 6, none⟩) (.inl (.inl rfl)) _
 have hnm : W3.heap[nb]? = some (.cells (nmCells av next fv mv cv (.map (some ub)) sv) 51 (0, 0)) := hf0.at_ h.nm (fun e => by have := (hcl nb e).1; omega)
 obtain ⟨r1, r2, r3⟩ := h.rest hL hA hf (fun q e => by
  rcases e with e | e
  ·
   exact .inl e
  ·
   refine .inr ⟨(hcl q e).1, fun es ck hm => ?_⟩
   rcases own_not_map h.ss hm with e' | e'
   ·
    rw [e'] at e; cases e
   ·
    exact e' e)
 have hq := (Sc.get h.sc).2.1
 have hmade := XMap.made 9 strV w
 have hm2 : SMap (W3.setCell ⟨nb, 6, none⟩ sv') w.heap.size (lvlM []) := by
  refine hmade.keep ?_
  refine (Below.heap_setCell W3 ⟨nb, 6, none⟩ _ w.heap.size (by show ¬ w.heap.size = nb; have := h.nm.lt; omega)).trans ?_
  exact (g3.block w.heap.size (by simp; omega) (fun e => by have := (hcl _ e.symm).2; omega)).trans (heap_alloc_old _ _ (by simp))
 refine ⟨⟨heap_setCell_same hnm _, r1, h.ul, ownsRow_fr h.cs hf (fun q e e' => ?_), ?_, ⟨hm2, hBs, fun e => by have := h.us.lt; omega, fun hm => by have := (hq _ hm).2.2.1; omega, r2⟩, r3, fun m hm p hp => ?_, h.ref, h.kin⟩, hf.imp (fun q _ e => ?_)⟩
 ·
  rcases e' with e' | e'
  ·
   have := (h.cs.lt q e).1; omega
  ·
   exact own_ne h.cs h.ss treeM_ne q e e'
 ·
  show World.ownsRow _ B _ 1 sv' (qs.length + 1) ((w.heap.size :: qs).reverse.map mapV)
  rw [List.reverse_cons, List.map_append]
  refine own3.kept (grown_set (grown_refl W3 (some nb)) 6 sv') ?_
  cases hv : sv'.ownBlock with
  | none => exact .inl rfl
  | some q => exact .inr (fun e => by injection e with e; have := (own3.lt q hv).1; omega)
 ·
  rcases List.mem_cons.1 hm with hm | hm
  ·
   subst hm; simp at hp
  ·
   exact h.here m hm p hp
 ·
  rcases e with e | e
  ·
   exact .inl (.inl e)
  ·
   exact .inr (hcl q e).1
theorem NS.pop {g k z q0 : Nat} (h : NS l nb Z B ids av next fv mv ub cv (.slice (some ⟨g, 0, none⟩) (k + 1) z) (q0 :: qs) ρ σ w) (hL : Low l nb Z B) (hA : Amb l nb Z) (hk : qs.length = k) :
 NS l nb Z B ids av next fv mv ub cv (.slice (some ⟨g, 0, none⟩) k z) qs ρ { σ with scope := σ.scope.drop 1 } (w.setCell ⟨nb, 6, none⟩ (.slice (some ⟨g, 0, none⟩) k z)) ∧ Fr (NOwn l nb B) w (w.setCell ⟨nb, 6, none⟩ (.slice (some ⟨g, 0, none⟩) k z)) := by
 have hnB := hL.nb
 have hf : Fr (fun q => q = nb) w (w.setCell ⟨nb, 6, none⟩ (.slice (some ⟨g, 0, none⟩) k z)) := (Fr.refl (fun q => q = nb) w).set (p := ⟨nb, 6, none⟩) (.inl rfl) _
 have hss := h.ss
 rw [List.reverse_cons, List.map_append, List.length_cons, hk] at hss
 have h2 := ownsRow_pop (n := k) (size := 1) (xs := qs.reverse.map mapV) (by simpa using hk) hss
 obtain ⟨r1, r2, r3⟩ := h.rest hL hA hf (fun q e => .inl e)
 cases hsc : σ.scope with
 | nil => rw [hsc] at r2; exact r2.elim
 | cons m ms =>
   rw [hsc] at r2
   obtain ⟨s1, s2, s3, s4, s5⟩ := r2
   refine ⟨⟨heap_setCell_same h.nm _, r1, h.ul, ownsRow_fr h.cs hf (fun q e e' => by have := (h.cs.lt q e).1; omega), ?_, s5, r3, fun m' hm p hp => ?_, h.ref, h.kin⟩, hf.imp (fun q _ e => .inl (.inl e))⟩
   ·
    rw [hk]
    exact ownsRow_fr h2 hf (fun q e e' => by have := (h2.lt q e).1; omega)
   ·
    have hh := h.here
    rw [hsc] at hh
    exact hh m' (by simp at hm; simp [hm]) p hp
end
end Go.Proofs.YtoelmnamlnbdhaaGreatDoor
namespace Hg
def nHead (σ : NmSt) (t : GT) : Except Nat NmSt :=
 if t.nd.kind = 7 ∨ t.nd.kind = 15 then match findVar σ.scope t.tt with
  | none => .error 2
  | some v => .ok { σ with refs := (t.b, v) :: σ.refs }
 else if t.nd.kind = 19 then .ok { σ with calls := σ.calls ++ [t] }
 else if t.nd.kind = 5 then .ok { σ with scope := [] :: σ.scope }
 else .ok σ
def nTail (σ : NmSt) (t : GT) : Except Nat NmSt := if t.nd.kind = 5 then .ok { σ with scope := σ.scope.drop 1 } else if t.nd.kind = 6 then σ.declare t else .ok σ
theorem nVisit_eq (σ : NmSt) (t : GT) : nVisit σ t = match nHead σ t with
 | .error e => .error e
 | .ok σ1 => match nVisitL σ1 t.ks with
   | .error e => .error e
   | .ok σ2 => nTail σ2 t := by
 cases t with
 | mk b nd md tt ks => rw [nVisit]; rfl
theorem nVisitL_nil (σ : NmSt) : nVisitL σ [] = .ok σ := by rw [nVisitL]
theorem nVisitL_cons (σ : NmSt) (t : GT) (ts : List GT) : nVisitL σ (t :: ts) = match nVisit σ t with
 | .error e => .error e
 | .ok σ1 => nVisitL σ1 ts := by rw [nVisitL]; rfl
theorem Bd.head {σ σ' : NmSt} {n : Nat} {t : GT} (h : Bd σ n) (hh : nHead σ t = .ok σ') : Bd σ' (n + 1) := by
 have h1 := h.us; have h2 := h.lv; have h3 := h.sc; have h4 := h.ca
 unfold nHead at hh
 by_cases k1 : t.nd.kind = 7 ∨ t.nd.kind = 15
 ·
  rw [if_pos k1] at hh
  cases hf : findVar σ.scope t.tt with
  | none => rw [hf] at hh; cases hh
  | some v =>
    rw [hf] at hh
    injection hh with hh
    subst hh
    exact ⟨by show σ.used.length ≤ n + 1; omega, fun m hm => by have := h2 m hm; omega, by show σ.scope.length ≤ n + 1; omega, by show σ.calls.length ≤ n + 1; omega⟩
 rw [if_neg k1] at hh
 by_cases k2 : t.nd.kind = 19
 ·
  rw [if_pos k2] at hh
  injection hh with hh
  subst hh
  exact ⟨by show σ.used.length ≤ n + 1; omega, fun m hm => by have := h2 m hm; omega, by show σ.scope.length ≤ n + 1; omega, by simp; omega⟩
 rw [if_neg k2] at hh
 by_cases k3 : t.nd.kind = 5
 ·
  rw [if_pos k3] at hh
  injection hh with hh
  subst hh
  refine ⟨by show σ.used.length ≤ n + 1; omega, fun m hm => ?_, by simp; omega, by show σ.calls.length ≤ n + 1; omega⟩
  rcases List.mem_cons.1 hm with hm | hm
  ·
   subst hm; simp
  ·
   have := h2 m hm; omega
 rw [if_neg k3] at hh
 injection hh with hh
 subst hh
 exact h.more (by omega)
theorem Bd.tail {σ σ' : NmSt} {n : Nat} {t : GT} (h : Bd σ n) (hh : nTail σ t = .ok σ') : Bd σ' (n + 1) := by
 have h1 := h.us; have h2 := h.lv; have h3 := h.sc; have h4 := h.ca
 unfold nTail at hh
 by_cases k1 : t.nd.kind = 5
 ·
  rw [if_pos k1] at hh
  injection hh with hh
  subst hh
  exact ⟨by show σ.used.length ≤ n + 1; omega, fun m hm => by have := h2 m (List.mem_of_mem_drop hm); omega, by simp; omega, by show σ.calls.length ≤ n + 1; omega⟩
 rw [if_neg k1] at hh
 by_cases k2 : t.nd.kind = 6
 ·
  rw [if_pos k2] at hh
  exact h.declare hh
 rw [if_neg k2] at hh
 injection hh with hh
 subst hh
 exact h.more (by omega)
theorem nVisit_bd : ∀ n t, t.subs.length ≤ n → ∀ σ N σ', Bd σ N → nVisit σ t = .ok σ' → Bd σ' (N + 2 * t.subs.length) := by
 intro n
 induction n with
 | zero => intro t h; rw [GT.subs_eq] at h; simp at h
 | succ n ih =>
   intro t ht σ N σ' hB hv
   have key : ∀ (ks : List GT), (∀ k ∈ ks, k.subs.length ≤ n) → ∀ σ N σ', Bd σ N → nVisitL σ ks = .ok σ' → Bd σ' (N + 2 * (GT.subsL ks).length) := by
    intro ks
    induction ks with
    | nil =>
      intro _ σ N σ' hB hv
      rw [nVisitL_nil] at hv
      injection hv with hv
      subst hv
      exact hB.more (by omega)
    | cons k ks ihk =>
      intro hk σ N σ' hB hv
      rw [nVisitL_cons] at hv
      cases h1 : nVisit σ k with
      | error e => rw [h1] at hv; cases hv
      | ok σ1 =>
        rw [h1] at hv
        have b1 := ih k (hk k (by simp)) σ N σ1 hB h1
        have b2 := ihk (fun x hx => hk x (by simp [hx])) σ1 _ σ' b1 hv
        rw [GT.subsL_cons, List.length_append]
        exact b2.more (by omega)
   rw [nVisit_eq] at hv
   cases hh : nHead σ t with
   | error e => rw [hh] at hv; cases hv
   | ok σ1 =>
     rw [hh] at hv
     dsimp only at hv
     cases hl : nVisitL σ1 t.ks with
     | error e => rw [hl] at hv; cases hv
     | ok σ2 =>
       rw [hl] at hv
       have b1 := hB.head hh
       have b2 := key t.ks (fun k hk => by have := GT.len_lt hk; omega) σ1 _ σ2 b1 hl
       have b3 := b2.tail hv
       rw [GT.subs_eq t]
       exact b3.more (by simp; omega)
end Hg
namespace Go.Proofs.YtoelmnamlnbdhaaGreatDoor
open Go.RowKit
open Hg (GT gl Bd)
theorem scopeInfo : (Tryz.prog.info? 104).map (fun i => (i.zero, i.size, i.bytes)) = some (some (.map none), 1, 8) := by kernel_rfl
set_option maxHeartbeats 8000000 in
set_option maxRecDepth 100000 in
theorem visit_any (l : List GT) (nb : Nat) (Z : Nat → Prop) (B : Nat) (hL : Low l nb Z B) (hA : Amb l nb Z) (ids : Nat → Nat) (av : Value) (next : Nat) (fv mv : Value) (ub : Nat) (hlen : ∀ s ∈ l, s.nd.name.length ≤ 1000000 ∧ s.tt.length ≤ 1000000) :
 ∀ (n : Nat) (t : GT), t ∈ l → t.subs.length ≤ n → ∀ (cv sv : Value) (qs : List Nat) (ρ : Nat → Nat) (σ : Hg.NmSt) (N : Nat) (w : World), Hg.nVisit σ t ≠ .error 0 → Bd σ N → N + 2 * t.subs.length ≤ 1000000 → NS l nb Z B ids av next fv mv ub cv sv qs ρ σ w →
 Calls Tryz.prog 52 #[.pointer (some ⟨nb, 0, none⟩), ptrV t] w (NRes l nb Z B ids av next fv mv ub qs (Hg.nVisit σ t) w) := by
 intro n
 induction n with
 | zero => intro t ht hn; rw [GT.subs_eq] at hn; simp at hn
 | succ n ih =>
   intro t ht hn cv sv qs ρ σ N w h0 hB hN hS
   have hlenk : t.subs.length = (GT.blocksL t.ks).length + 1 := by rw [GT.subs_eq, GT.blocksL_len]; rfl
   have hkl : t.ks.length ≤ 1000000 := by have := GT.len_le t.ks; omega
   have IH := Lib.hid ih
   have HLW := Lib.hid hL
   have HAM := Lib.hid hA
   have HT := Lib.hid ht
   have HLEN := Lib.hid hlen
   have HS := Lib.hid hS
   have HB := Lib.hid hB
   have HN := Lib.hid hN
   generalize hr : Hg.nVisit σ t = r at h0 ⊢
   have H0 := Lib.hid h0
   rw [Hg.nVisit_eq] at hr
   obtain ⟨a, c, hh, -, -⟩ := (hS.node t ht).open_
   have c0 := cell_of_row w t.b 0 _ _ (0, 0) hh
   have k2 := cell_of_row w t.b 7 _ _ (0, 0) hh
   have x4 := cell_of_row w t.b 4 _ _ (0, 0) hh
   have fz : ∀ i, w.frozen? ⟨t.b, i, none⟩ = false := fun i => by simp [World.frozen?, hh]
   have htl : t.b < w.heap.size := (Array.getElem?_eq_some_iff.1 hh).1
   simp at c0 k2 x4
   clear ih hL hA ht hlen hS hB hN h0 hh
   by_cases h715 : t.nd.kind = 7 ∨ t.nd.kind = 15
   ·
    have TF := Lib.hid (find_any l nb Z B ids av next fv mv ub cv sv qs ρ σ t.tt (HLEN.out t HT.out).2 w HS.out (by have := HB.out.sc; have := HN.out; omega))
    have hn5 : ¬ t.nd.kind = 5 := by omega
    have hn6 : ¬ t.nd.kind = 6 := by omega
    have e5 : ((t.nd.kind : Int) == 5) = false := by simpa using (show ¬ (t.nd.kind : Int) = 5 by omega)
    have e6 : ((t.nd.kind : Int) == 6) = false := by simpa using (show ¬ (t.nd.kind : Int) = 6 by omega)
    unfold Hg.nHead at hr
    rw [if_pos h715] at hr
    have hq7 : (((t.nd.kind : Int) == 7) = true) ∨ (((t.nd.kind : Int) == 7) = false ∧ ((t.nd.kind : Int) == 15) = true) := by
     rcases h715 with h | h
     ·
      exact .inl (by simp [h])
     ·
      exact .inr ⟨by simp [h], by simp [h]⟩
    cases hfv : Hg.findVar σ.scope t.tt with
    | none =>
      rw [hfv] at TF hr
      have hre : r = .error 2 := hr.symm
      subst hre
      have HFR := Lib.hid (show Fr (NOwn l nb B) w (w.setCell ⟨t.b, 4, none⟩ (.int .u64 0)) from (Fr.refl _ w).set (p := ⟨t.b, 4, none⟩) (.inl (.inl (.inr ⟨t, HT.out, rfl⟩))) _)
      clear hfv hr
      rcases hq7 with hq7 | ⟨hq7, hq15⟩
      ·
       go_enter Tryz.func52, Tryz.ntmps52
       go_wp2_with fail
       refine TF.out.mono ?_
       rintro e w1 ⟨rfl, rfl⟩
       go_wp2
       go_ret
       exact ⟨HFR.out, rfl⟩
      ·
       go_enter Tryz.func52, Tryz.ntmps52
       go_wp2_with fail
       refine TF.out.mono ?_
       rintro e w1 ⟨rfl, rfl⟩
       go_wp2
       go_ret
       exact ⟨HFR.out, rfl⟩
    | some v =>
      rw [hfv] at TF hr
      dsimp only at hr
      have HR := Lib.hid hr
      have HS1 := Lib.hid (HS.out.refUp HLW.out HAM.out HT.out v)
      have HB1 := Lib.hid (show Bd { σ with refs := (t.b, v) :: σ.refs } (N + 1) from HB.out.head (t := t) (by unfold Hg.nHead; rw [if_pos h715, hfv]))
      have HF1 := Lib.hid (show Fr (NOwn l nb B) w (w.setCell ⟨t.b, 4, none⟩ (.int .u64 (ids v : Int))) from (Fr.refl _ w).set (p := ⟨t.b, 4, none⟩) (.inl (.inl (.inr ⟨t, HT.out, rfl⟩))) _)
      clear hfv hr
      rcases hq7 with hq7 | ⟨hq7, hq15⟩
      ·
       go_enter Tryz.func52, Tryz.ntmps52
       go_wp2_with fail
       refine TF.out.mono ?_
       rintro e w1 ⟨rfl, rfl⟩
       go_upto_region 12 with fail
       clear TF c0 k2 x4 fz htl
       generalize World.setCell w _ _ = w1 at HS1 HF1 ⊢
       have HRL0 := Lib.hid (show Hg.nVisitL { σ with refs := (t.b, v) :: σ.refs } t.ks ≠ .error 0 from fun e => H0.out (by rw [← HR.out, e]))
       obtain ⟨a1, cc1, hh1, hs1, hq1⟩ := (HS1.out.node t HT.out).open_
       have HQ := Lib.hid (show ∀ q, (Value.slice a1 t.ks.length cc1).ownBlock = some q → ¬ NOwn l nb B q from fun q e e' => by
        have hz := hq1 q e
        rcases e' with (e' | ⟨s, hs, e'⟩) | e'
        ·
         exact HAM.out.nbz (e' ▸ hz)
        ·
         exact HAM.out.nz s hs (e' ▸ hz)
        ·
         have := HLW.out.z q hz; omega)
       have HSL := Lib.hid hs1
       have c8 := cell_of_row w1 t.b 8 _ _ (0, 0) hh1
       simp at c8
       clear hh1 hs1 hq1
       go_wp2
       go_loopw [62] (fun p wr => ∃ (j : Nat) (cvj svj : Value) (ρj : Nat → Nat) (σj : Hg.NmSt), p = .int .i64 (j : Int) ∧ j ≤ t.ks.length ∧ NS l nb Z B ids av next fv mv ub cvj svj qs ρj σj wr ∧ Bd σj (N + 1 + 2 * (GT.blocksL (t.ks.take j)).length) ∧ Fr (NOwn l nb B) w1 wr ∧ Hg.nVisitL σj (t.ks.drop j) = Hg.nVisitL { σ with refs := (t.b, v) :: σ.refs } t.ks) (fun p wr => t.ks.length - (intOf p).toNat)
       case atStart => exact ⟨0, _, _, _, _, rfl, Nat.zero_le _, HS1.out, by simpa [GT.blocksL, GT.subsL_nil] using HB1.out, Fr.refl _ _, rfl⟩
       case round =>
        obtain ⟨j, cvj, svj, ρj, σj, rfl, hj, hSj, hBj, hFj, hvj⟩ := hrel
        have HFJ := Lib.hid hFj
        have HBJ := Lib.hid hBj
        by_cases hlt : j < t.ks.length
        ·
         obtain ⟨b, o, rfl, _, kc⟩ := (HSL.out.fr (Nat.le_refl _) hFj HQ.out).mapAt hlt
         have hkm : t.ks[j] ∈ t.ks := List.getElem_mem hlt
         have hk : t.ks[j] ∈ l := HAM.out.kids t HT.out _ hkm
         have hsz : (GT.blocksL (t.ks.take (j + 1))).length = (GT.blocksL (t.ks.take j)).length + t.ks[j].subs.length := by rw [GT.blocksL_take hlt, List.length_append, GT.blocks_len]
         have hsz2 := GT.subsL_take_le t.ks (j + 1)
         rw [List.drop_eq_getElem_cons hlt, Hg.nVisitL_cons] at hvj
         have h0k : Hg.nVisit σj t.ks[j] ≠ .error 0 := fun e => by rw [e] at hvj; exact HRL0.out hvj.symm
         have TI := Lib.hid (IH.out t.ks[j] hk (by have := GT.len_lt hkm; omega) cvj svj _ ρj σj _ wr h0k hBj (by have := HN.out; omega) hSj)
         have HVJ := Lib.hid hvj
         have HSZ := Lib.hid hsz
         clear hkm hk hsz hsz2 h0k hSj hBj hFj hvj
         go_wp2_with fail
         refine TI.out.mono ?_
         rintro e w3 ⟨hF3, hres⟩
         have HF3 := Lib.hid (HFJ.out.trans hF3)
         have hvj := HVJ.out
         cases hrk : Hg.nVisit σj t.ks[j] with
         | error ek =>
           rw [hrk] at hres hvj
           replace hres : e = .returned (.int .i64 (errNo ek : Int)) := hres
           subst hres
           have hre : r = .error ek := by rw [← HR.out, ← hvj]
           have hq : ((errNo ek : Int) != 0) = true := by unfold errNo; split <;> rfl
           subst hre
           clear TI HVJ hF3 hvj hrk
           go_wp2
           go_ret
           exact ⟨HF1.out.trans HF3.out, rfl⟩
         | ok σ' =>
           rw [hrk] at hres hvj
           obtain ⟨rfl, cv', sv', ρ', hS'⟩ := hres
           have HS' := Lib.hid hS'
           have HVK := Lib.hid hvj
           have HBK := Lib.hid (Hg.nVisit_bd _ _ (Nat.le_refl _) _ _ _ HBJ.out hrk)
           clear TI HVJ hF3 hS' hvj hrk
           go_wp2
           go_roundw
           case rel => exact ⟨j + 1, cv', sv', ρ', σ', by go_num, by omega, HS'.out, by rw [HSZ.out]; exact HBK.out.more (by omega), HF3.out, HVK.out⟩
           case measure => simp [intOf]; omega
        ·
         obtain rfl : j = t.ks.length := by omega
         rw [List.drop_length, Hg.nVisitL_nil] at hvj
         have hfin : Hg.nTail σj t = r := by rw [← HR.out, ← hvj]
         have HFIN := Lib.hid hfin
         have HSJ := Lib.hid hSj
         have HFW := Lib.hid (HF1.out.trans hFj)
         obtain ⟨a2, cc2, hh2, -, -⟩ := (hSj.node t HT.out).open_
         have c0 := cell_of_row wr t.b 0 _ _ (0, 0) hh2
         simp at c0
         clear hh2 hSj hBj hFj hvj hfin
         have hre : r = .ok σj := by rw [← HFIN.out]; unfold Hg.nTail; rw [if_neg (by omega), if_neg (by omega)]
         subst hre
         go_wp2
         go_ret
         exact ⟨HFW.out, rfl, _, _, _, HSJ.out⟩
      ·
       go_enter Tryz.func52, Tryz.ntmps52
       go_wp2_with fail
       refine TF.out.mono ?_
       rintro e w1 ⟨rfl, rfl⟩
       go_upto_region 12 with fail
       clear TF c0 k2 x4 fz htl
       generalize World.setCell w _ _ = w1 at HS1 HF1 ⊢
       have HRL0 := Lib.hid (show Hg.nVisitL { σ with refs := (t.b, v) :: σ.refs } t.ks ≠ .error 0 from fun e => H0.out (by rw [← HR.out, e]))
       obtain ⟨a1, cc1, hh1, hs1, hq1⟩ := (HS1.out.node t HT.out).open_
       have HQ := Lib.hid (show ∀ q, (Value.slice a1 t.ks.length cc1).ownBlock = some q → ¬ NOwn l nb B q from fun q e e' => by
        have hz := hq1 q e
        rcases e' with (e' | ⟨s, hs, e'⟩) | e'
        ·
         exact HAM.out.nbz (e' ▸ hz)
        ·
         exact HAM.out.nz s hs (e' ▸ hz)
        ·
         have := HLW.out.z q hz; omega)
       have HSL := Lib.hid hs1
       have c8 := cell_of_row w1 t.b 8 _ _ (0, 0) hh1
       simp at c8
       clear hh1 hs1 hq1
       go_wp2
       go_loopw [62] (fun p wr => ∃ (j : Nat) (cvj svj : Value) (ρj : Nat → Nat) (σj : Hg.NmSt), p = .int .i64 (j : Int) ∧ j ≤ t.ks.length ∧ NS l nb Z B ids av next fv mv ub cvj svj qs ρj σj wr ∧ Bd σj (N + 1 + 2 * (GT.blocksL (t.ks.take j)).length) ∧ Fr (NOwn l nb B) w1 wr ∧ Hg.nVisitL σj (t.ks.drop j) = Hg.nVisitL { σ with refs := (t.b, v) :: σ.refs } t.ks) (fun p wr => t.ks.length - (intOf p).toNat)
       case atStart => exact ⟨0, _, _, _, _, rfl, Nat.zero_le _, HS1.out, by simpa [GT.blocksL, GT.subsL_nil] using HB1.out, Fr.refl _ _, rfl⟩
       case round =>
        obtain ⟨j, cvj, svj, ρj, σj, rfl, hj, hSj, hBj, hFj, hvj⟩ := hrel
        have HFJ := Lib.hid hFj
        have HBJ := Lib.hid hBj
        by_cases hlt : j < t.ks.length
        ·
         obtain ⟨b, o, rfl, _, kc⟩ := (HSL.out.fr (Nat.le_refl _) hFj HQ.out).mapAt hlt
         have hkm : t.ks[j] ∈ t.ks := List.getElem_mem hlt
         have hk : t.ks[j] ∈ l := HAM.out.kids t HT.out _ hkm
         have hsz : (GT.blocksL (t.ks.take (j + 1))).length = (GT.blocksL (t.ks.take j)).length + t.ks[j].subs.length := by rw [GT.blocksL_take hlt, List.length_append, GT.blocks_len]
         have hsz2 := GT.subsL_take_le t.ks (j + 1)
         rw [List.drop_eq_getElem_cons hlt, Hg.nVisitL_cons] at hvj
         have h0k : Hg.nVisit σj t.ks[j] ≠ .error 0 := fun e => by rw [e] at hvj; exact HRL0.out hvj.symm
         have TI := Lib.hid (IH.out t.ks[j] hk (by have := GT.len_lt hkm; omega) cvj svj _ ρj σj _ wr h0k hBj (by have := HN.out; omega) hSj)
         have HVJ := Lib.hid hvj
         have HSZ := Lib.hid hsz
         clear hkm hk hsz hsz2 h0k hSj hBj hFj hvj
         go_wp2_with fail
         refine TI.out.mono ?_
         rintro e w3 ⟨hF3, hres⟩
         have HF3 := Lib.hid (HFJ.out.trans hF3)
         have hvj := HVJ.out
         cases hrk : Hg.nVisit σj t.ks[j] with
         | error ek =>
           rw [hrk] at hres hvj
           replace hres : e = .returned (.int .i64 (errNo ek : Int)) := hres
           subst hres
           have hre : r = .error ek := by rw [← HR.out, ← hvj]
           have hq : ((errNo ek : Int) != 0) = true := by unfold errNo; split <;> rfl
           subst hre
           clear TI HVJ hF3 hvj hrk
           go_wp2
           go_ret
           exact ⟨HF1.out.trans HF3.out, rfl⟩
         | ok σ' =>
           rw [hrk] at hres hvj
           obtain ⟨rfl, cv', sv', ρ', hS'⟩ := hres
           have HS' := Lib.hid hS'
           have HVK := Lib.hid hvj
           have HBK := Lib.hid (Hg.nVisit_bd _ _ (Nat.le_refl _) _ _ _ HBJ.out hrk)
           clear TI HVJ hF3 hS' hvj hrk
           go_wp2
           go_roundw
           case rel => exact ⟨j + 1, cv', sv', ρ', σ', by go_num, by omega, HS'.out, by rw [HSZ.out]; exact HBK.out.more (by omega), HF3.out, HVK.out⟩
           case measure => simp [intOf]; omega
        ·
         obtain rfl : j = t.ks.length := by omega
         rw [List.drop_length, Hg.nVisitL_nil] at hvj
         have hfin : Hg.nTail σj t = r := by rw [← HR.out, ← hvj]
         have HFIN := Lib.hid hfin
         have HSJ := Lib.hid hSj
         have HFW := Lib.hid (HF1.out.trans hFj)
         obtain ⟨a2, cc2, hh2, -, -⟩ := (hSj.node t HT.out).open_
         have c0 := cell_of_row wr t.b 0 _ _ (0, 0) hh2
         simp at c0
         clear hh2 hSj hBj hFj hvj hfin
         have hre : r = .ok σj := by rw [← HFIN.out]; unfold Hg.nTail; rw [if_neg (by omega), if_neg (by omega)]
         subst hre
         go_wp2
         go_ret
         exact ⟨HFW.out, rfl, _, _, _, HSJ.out⟩
   have g7 : ((t.nd.kind : Int) == 7) = false := by simpa using (show ¬ (t.nd.kind : Int) = 7 by omega)
   have g15 : ((t.nd.kind : Int) == 15) = false := by simpa using (show ¬ (t.nd.kind : Int) = 15 by omega)
   have hnm := HS.out.nm
   have c4 := cell_of_row w nb 4 _ _ (0, 0) hnm
   have c6 := cell_of_row w nb 6 _ _ (0, 0) hnm
   simp at c4 c6
   have hnl := hnm.lt
   obtain ⟨j0, hj, hj0, hj1, hj2⟩ := info_parts treeInfo
   obtain ⟨i0, hi, hz0, hz1, hz2⟩ := info_parts scopeInfo
   have hmm := @run_makeMap Tryz.prog
   have hhd : Hg.nHead σ t = if t.nd.kind = 19 then .ok { σ with calls := σ.calls ++ [t] } else if t.nd.kind = 5 then .ok { σ with scope := [] :: σ.scope } else .ok σ := by unfold Hg.nHead; rw [if_neg h715]
   have HHD := Lib.hid hhd
   rw [hhd] at hr
   clear hhd hnm
   by_cases h19 : t.nd.kind = 19
   ·
    have hn5 : ¬ t.nd.kind = 5 := by omega
    have hn6 : ¬ t.nd.kind = 6 := by omega
    have e5 : ((t.nd.kind : Int) == 5) = false := by simpa using (show ¬ (t.nd.kind : Int) = 5 by omega)
    have e6 : ((t.nd.kind : Int) == 6) = false := by simpa using (show ¬ (t.nd.kind : Int) = 6 by omega)
    have g19 : ((t.nd.kind : Int) == 19) = true := by simpa using (show (t.nd.kind : Int) = 19 by omega)
    rw [if_pos h19] at hr
    dsimp only at hr
    have HR := Lib.hid hr
    have HB1 := Lib.hid (show Bd { σ with calls := σ.calls ++ [t] } (N + 1) from HB.out.head (t := t) (by rw [HHD.out, if_pos h19]))
    have hcl := HB.out.ca
    have hNN := HN.out
    clear hr k2 x4 fz HHD
    go_enter Tryz.func52, Tryz.ntmps52
    go_wp2_with (at_builtin; refine wpList_append_own_at _ rfl (.tmp 39) (.tmp 41) _ rfl B 41 j0 _ 1 8 Tryz.underlying48 hj hj0 hj1 hj2 rfl (by decide) cv σ.calls.length (σ.calls.map ptrV) rfl (HS.out.cs.alloc _) ⟨w.heap.size, 0, none⟩ 1 1 [ptrV t] rfl rfl (cells_new _ _ _) ?_ ?_ ?_ ?_ ?_)
    all_goals first
     | intro v3 W3 own3 g3 _ at3
     | exact cells_new2 _ _ _ _
     | rfl
     | (unfold maxLen; omega)
     | omega
     | (have := HS.out.size; simp; omega)
     | (intro u hu; simp only [List.mem_singleton] at hu; subst hu; rfl)
    ·
     skip
     have hbn : Below w.heap.size w (w.alloc (.cells #[ptrV t] 41)) := (Below.refl _ _).alloc (Nat.le_refl _) _
     obtain ⟨hs1, hf1⟩ := HS.out.callUp HLW.out HAM.out HT.out hbn own3 g3
     have hn3 : NmAt W3 nb av next fv mv cv (.map (some ub)) sv := (g3.block nb (by simp; omega) (fun e => by have := (HS.out.cs.lt nb e.symm).1; have := HLW.out.nb; omega)).trans ((hbn.block nb hnl).trans HS.out.nm)
     have c4 := cell_of_row W3 nb 4 _ _ (0, 0) hn3
     have f4 : ∀ i, W3.frozen? ⟨nb, i, none⟩ = false := fun i => by simp [World.frozen?, show W3.heap[nb]? = _ from hn3]
     simp at c4
     obtain ⟨y3, z3, rfl⟩ := ownsRow_succ own3
     have HS1 := Lib.hid hs1
     have HF1 := Lib.hid hf1
     clear own3 g3 at3 hbn hs1 hf1 hn3
     go_upto_region 12 with fail
     clear c0 c4 f4 htl c6
     generalize World.setCell W3 _ _ = w1 at HS1 HF1 ⊢
     have HRL0 := Lib.hid (show Hg.nVisitL { σ with calls := σ.calls ++ [t] } t.ks ≠ .error 0 from fun e => H0.out (by rw [← HR.out, e]))
     obtain ⟨a1, cc1, hh1, hs1, hq1⟩ := (HS1.out.node t HT.out).open_
     have HQ := Lib.hid (show ∀ q, (Value.slice a1 t.ks.length cc1).ownBlock = some q → ¬ NOwn l nb B q from fun q e e' => by
      have hz := hq1 q e
      rcases e' with (e' | ⟨s, hs, e'⟩) | e'
      ·
       exact HAM.out.nbz (e' ▸ hz)
      ·
       exact HAM.out.nz s hs (e' ▸ hz)
      ·
       have := HLW.out.z q hz; omega)
     have HSL := Lib.hid hs1
     have c8 := cell_of_row w1 t.b 8 _ _ (0, 0) hh1
     simp at c8
     clear hh1 hs1 hq1
     go_wp2
     go_loopw [62] (fun p wr => ∃ (j : Nat) (cvj svj : Value) (ρj : Nat → Nat) (σj : Hg.NmSt), p = .int .i64 (j : Int) ∧ j ≤ t.ks.length ∧ NS l nb Z B ids av next fv mv ub cvj svj qs ρj σj wr ∧ Bd σj (N + 1 + 2 * (GT.blocksL (t.ks.take j)).length) ∧ Fr (NOwn l nb B) w1 wr ∧ Hg.nVisitL σj (t.ks.drop j) = Hg.nVisitL { σ with calls := σ.calls ++ [t] } t.ks) (fun p wr => t.ks.length - (intOf p).toNat)
     case atStart => exact ⟨0, _, _, _, _, rfl, Nat.zero_le _, HS1.out, by simpa [GT.blocksL, GT.subsL_nil] using HB1.out, Fr.refl _ _, rfl⟩
     case round =>
      obtain ⟨j, cvj, svj, ρj, σj, rfl, hj, hSj, hBj, hFj, hvj⟩ := hrel
      have HFJ := Lib.hid hFj
      have HBJ := Lib.hid hBj
      by_cases hlt : j < t.ks.length
      ·
       obtain ⟨b, o, rfl, _, kc⟩ := (HSL.out.fr (Nat.le_refl _) hFj HQ.out).mapAt hlt
       have hkm : t.ks[j] ∈ t.ks := List.getElem_mem hlt
       have hk : t.ks[j] ∈ l := HAM.out.kids t HT.out _ hkm
       have hsz : (GT.blocksL (t.ks.take (j + 1))).length = (GT.blocksL (t.ks.take j)).length + t.ks[j].subs.length := by rw [GT.blocksL_take hlt, List.length_append, GT.blocks_len]
       have hsz2 := GT.subsL_take_le t.ks (j + 1)
       rw [List.drop_eq_getElem_cons hlt, Hg.nVisitL_cons] at hvj
       have h0k : Hg.nVisit σj t.ks[j] ≠ .error 0 := fun e => by rw [e] at hvj; exact HRL0.out hvj.symm
       have TI := Lib.hid (IH.out t.ks[j] hk (by have := GT.len_lt hkm; omega) cvj svj _ ρj σj _ wr h0k hBj (by have := HN.out; omega) hSj)
       have HVJ := Lib.hid hvj
       have HSZ := Lib.hid hsz
       clear hkm hk hsz hsz2 h0k hSj hBj hFj hvj
       go_wp2_with fail
       refine TI.out.mono ?_
       rintro e w3 ⟨hF3, hres⟩
       have HF3 := Lib.hid (HFJ.out.trans hF3)
       have hvj := HVJ.out
       cases hrk : Hg.nVisit σj t.ks[j] with
       | error ek =>
         rw [hrk] at hres hvj
         replace hres : e = .returned (.int .i64 (errNo ek : Int)) := hres
         subst hres
         have hre : r = .error ek := by rw [← HR.out, ← hvj]
         have hq : ((errNo ek : Int) != 0) = true := by unfold errNo; split <;> rfl
         subst hre
         clear TI HVJ hF3 hvj hrk
         go_wp2
         go_ret
         exact ⟨HF1.out.trans HF3.out, rfl⟩
       | ok σ' =>
         rw [hrk] at hres hvj
         obtain ⟨rfl, cv', sv', ρ', hS'⟩ := hres
         have HS' := Lib.hid hS'
         have HVK := Lib.hid hvj
         have HBK := Lib.hid (Hg.nVisit_bd _ _ (Nat.le_refl _) _ _ _ HBJ.out hrk)
         clear TI HVJ hF3 hS' hvj hrk
         go_wp2
         go_roundw
         case rel => exact ⟨j + 1, cv', sv', ρ', σ', by go_num, by omega, HS'.out, by rw [HSZ.out]; exact HBK.out.more (by omega), HF3.out, HVK.out⟩
         case measure => simp [intOf]; omega
      ·
       obtain rfl : j = t.ks.length := by omega
       rw [List.drop_length, Hg.nVisitL_nil] at hvj
       have hfin : Hg.nTail σj t = r := by rw [← HR.out, ← hvj]
       have HFIN := Lib.hid hfin
       have HSJ := Lib.hid hSj
       have HFW := Lib.hid (HF1.out.trans hFj)
       obtain ⟨a2, cc2, hh2, -, -⟩ := (hSj.node t HT.out).open_
       have c0 := cell_of_row wr t.b 0 _ _ (0, 0) hh2
       simp at c0
       clear hh2 hSj hBj hFj hvj hfin
       have hre : r = .ok σj := by rw [← HFIN.out]; unfold Hg.nTail; rw [if_neg (by omega), if_neg (by omega)]
       subst hre
       go_wp2
       go_ret
       exact ⟨HFW.out, rfl, _, _, _, HSJ.out⟩
   have g19 : ((t.nd.kind : Int) == 19) = false := by simpa using (show ¬ (t.nd.kind : Int) = 19 by omega)
   rw [if_neg h19] at hr
   by_cases hk5 : t.nd.kind = 5
   ·
    have g5 : ((t.nd.kind : Int) == 5) = true := by simpa using (show (t.nd.kind : Int) = 5 by omega)
    rw [if_pos hk5] at hr
    dsimp only at hr
    have HR := Lib.hid hr
    have HB1 := Lib.hid (show Bd { σ with scope := [] :: σ.scope } (N + 1) from HB.out.head (t := t) (by rw [HHD.out, if_neg h19, if_pos hk5]))
    have hcl := HB.out.sc
    have hql0 := (Sc.get HS.out.sc).1
    have hNN := HN.out
    have hql1 : qs.length ≤ 1000000 := by omega
    clear hql0 hcl
    clear hr k2 x4 fz HHD
    go_enter Tryz.func52, Tryz.ntmps52
    go_wp2_with (at_builtin; refine wpList_append_own_at _ rfl (.tmp 51) (.tmp 53) _ rfl B 104 i0 _ 1 8 Tryz.underlying49 hi hz0 hz1 hz2 rfl (by decide) sv qs.length (qs.reverse.map mapV) rfl ((HS.out.ss.alloc _).alloc _) ⟨w.heap.size + 1, 0, none⟩ 1 1 [.map (some w.heap.size)] rfl rfl ?_ ?_ ?_ ?_ ?_ ?_)
    all_goals first
     | intro v3 W3 own3 g3 _ at3
     | exact cells_new2 _ _ _ _
     | rfl
     | (unfold maxLen; omega)
     | omega
     | (have := HS.out.size; simp; omega)
     | (intro u hu; simp only [List.mem_singleton] at hu; subst hu; rfl)
    ·
     skip
     have hbn : Below w.heap.size w ((w.alloc (.map #[] 0)).alloc (.cells #[.map (some w.heap.size)] 104)) := ((Below.refl _ _).alloc (Nat.le_refl _) _).alloc (by simp) _
     rw [← List.map_reverse] at own3
     obtain ⟨hs1, hf1⟩ := HS.out.push HLW.out HAM.out own3 g3
     have hn3 : NmAt W3 nb av next fv mv cv (.map (some ub)) sv := (g3.block nb (by simp; omega) (fun e => by have := (HS.out.ss.lt nb e.symm).1; have := HLW.out.nb; omega)).trans ((hbn.block nb hnl).trans HS.out.nm)
     have c6 := cell_of_row W3 nb 6 _ _ (0, 0) hn3
     have f6 : ∀ i, W3.frozen? ⟨nb, i, none⟩ = false := fun i => by simp [World.frozen?, show W3.heap[nb]? = _ from hn3]
     simp at c6
     obtain ⟨y3, z3, rfl⟩ := ownsRow_succ own3
     have HS1 := Lib.hid hs1
     have HF1 := Lib.hid hf1
     clear own3 g3 at3 hbn hs1 hf1 hn3
     go_upto_region 12 with fail
     clear c0 c6 f6 htl c4
     generalize World.setCell W3 _ _ = w1 at HS1 HF1 ⊢
     generalize w.heap.size = q0 at HS1 ⊢
     have HRL0 := Lib.hid (show Hg.nVisitL { σ with scope := [] :: σ.scope } t.ks ≠ .error 0 from fun e => H0.out (by rw [← HR.out, e]))
     obtain ⟨a1, cc1, hh1, hs1, hq1⟩ := (HS1.out.node t HT.out).open_
     have HQ := Lib.hid (show ∀ q, (Value.slice a1 t.ks.length cc1).ownBlock = some q → ¬ NOwn l nb B q from fun q e e' => by
      have hz := hq1 q e
      rcases e' with (e' | ⟨s, hs, e'⟩) | e'
      ·
       exact HAM.out.nbz (e' ▸ hz)
      ·
       exact HAM.out.nz s hs (e' ▸ hz)
      ·
       have := HLW.out.z q hz; omega)
     have HSL := Lib.hid hs1
     have c8 := cell_of_row w1 t.b 8 _ _ (0, 0) hh1
     simp at c8
     clear hh1 hs1 hq1
     go_wp2
     go_loopw [62] (fun p wr => ∃ (j : Nat) (cvj svj : Value) (ρj : Nat → Nat) (σj : Hg.NmSt), p = .int .i64 (j : Int) ∧ j ≤ t.ks.length ∧ NS l nb Z B ids av next fv mv ub cvj svj (q0 :: qs) ρj σj wr ∧ Bd σj (N + 1 + 2 * (GT.blocksL (t.ks.take j)).length) ∧ Fr (NOwn l nb B) w1 wr ∧ Hg.nVisitL σj (t.ks.drop j) = Hg.nVisitL { σ with scope := [] :: σ.scope } t.ks) (fun p wr => t.ks.length - (intOf p).toNat)
     case atStart => exact ⟨0, _, _, _, _, rfl, Nat.zero_le _, HS1.out, by simpa [GT.blocksL, GT.subsL_nil] using HB1.out, Fr.refl _ _, rfl⟩
     case round =>
      obtain ⟨j, cvj, svj, ρj, σj, rfl, hj, hSj, hBj, hFj, hvj⟩ := hrel
      have HFJ := Lib.hid hFj
      have HBJ := Lib.hid hBj
      by_cases hlt : j < t.ks.length
      ·
       obtain ⟨b, o, rfl, _, kc⟩ := (HSL.out.fr (Nat.le_refl _) hFj HQ.out).mapAt hlt
       have hkm : t.ks[j] ∈ t.ks := List.getElem_mem hlt
       have hk : t.ks[j] ∈ l := HAM.out.kids t HT.out _ hkm
       have hsz : (GT.blocksL (t.ks.take (j + 1))).length = (GT.blocksL (t.ks.take j)).length + t.ks[j].subs.length := by rw [GT.blocksL_take hlt, List.length_append, GT.blocks_len]
       have hsz2 := GT.subsL_take_le t.ks (j + 1)
       rw [List.drop_eq_getElem_cons hlt, Hg.nVisitL_cons] at hvj
       have h0k : Hg.nVisit σj t.ks[j] ≠ .error 0 := fun e => by rw [e] at hvj; exact HRL0.out hvj.symm
       have TI := Lib.hid (IH.out t.ks[j] hk (by have := GT.len_lt hkm; omega) cvj svj _ ρj σj _ wr h0k hBj (by have := HN.out; omega) hSj)
       have HVJ := Lib.hid hvj
       have HSZ := Lib.hid hsz
       clear hkm hk hsz hsz2 h0k hSj hBj hFj hvj
       go_wp2_with fail
       refine TI.out.mono ?_
       rintro e w3 ⟨hF3, hres⟩
       have HF3 := Lib.hid (HFJ.out.trans hF3)
       have hvj := HVJ.out
       cases hrk : Hg.nVisit σj t.ks[j] with
       | error ek =>
         rw [hrk] at hres hvj
         replace hres : e = .returned (.int .i64 (errNo ek : Int)) := hres
         subst hres
         have hre : r = .error ek := by rw [← HR.out, ← hvj]
         have hq : ((errNo ek : Int) != 0) = true := by unfold errNo; split <;> rfl
         subst hre
         clear TI HVJ hF3 hvj hrk
         go_wp2
         go_ret
         exact ⟨HF1.out.trans HF3.out, rfl⟩
       | ok σ' =>
         rw [hrk] at hres hvj
         obtain ⟨rfl, cv', sv', ρ', hS'⟩ := hres
         have HS' := Lib.hid hS'
         have HVK := Lib.hid hvj
         have HBK := Lib.hid (Hg.nVisit_bd _ _ (Nat.le_refl _) _ _ _ HBJ.out hrk)
         clear TI HVJ hF3 hS' hvj hrk
         go_wp2
         go_roundw
         case rel => exact ⟨j + 1, cv', sv', ρ', σ', by go_num, by omega, HS'.out, by rw [HSZ.out]; exact HBK.out.more (by omega), HF3.out, HVK.out⟩
         case measure => simp [intOf]; omega
      ·
       obtain rfl : j = t.ks.length := by omega
       rw [List.drop_length, Hg.nVisitL_nil] at hvj
       have hfin : Hg.nTail σj t = r := by rw [← HR.out, ← hvj]
       have HFIN := Lib.hid hfin
       have HSJ := Lib.hid hSj
       have HFW := Lib.hid (HF1.out.trans hFj)
       obtain ⟨a2, cc2, hh2, -, -⟩ := (hSj.node t HT.out).open_
       have c0 := cell_of_row wr t.b 0 _ _ (0, 0) hh2
       simp at c0
       clear hh2 hSj hBj hFj hvj hfin
       have hre : r = .ok { σj with scope := σj.scope.drop 1 } := by rw [← HFIN.out]; unfold Hg.nTail; rw [if_pos hk5]
       subst hre
       obtain ⟨g5', z5, rfl⟩ := ownsRow_succ (k := qs.length) HSJ.out.ss
       have hss := HSJ.out.ss
       have hnm5 := HSJ.out.nm
       have c6 := cell_of_row wr nb 6 _ _ (0, 0) hnm5
       have f6 : ∀ i, wr.frozen? ⟨nb, i, none⟩ = false := fun i => by simp [World.frozen?, show wr.heap[nb]? = _ from hnm5]
       simp at c6
       have hcap : qs.length + 1 ≤ z5 := (by obtain ⟨c9, e, h, _⟩ := own_form hss rfl; injection e with _ _ e; simp at h; omega)
       have hks : IntKind.i64.wrap (((qs.length + 1 : Nat) : Int) - 1) = (qs.length : Int) := by rw [IntWalk.i64_in _ (by omega)]; omega
       have hks2 : IntKind.i64.wrap (qs.length : Int) = (qs.length : Int) := IntWalk.i64_in _ (by omega)
       have hcap2 : qs.length ≤ z5 := by omega
       obtain ⟨hp1, hp2⟩ := HSJ.out.pop HLW.out HAM.out rfl
       have HP1 := Lib.hid hp1.drew
       have HP2 := Lib.hid (HFW.out.trans hp2).drew
       have hHeld : (fun w' => w'.cell? ⟨nb, 6, none⟩ = some (.slice (some ⟨g5', 0, none⟩) (qs.length + 1) z5)) wr.drew := c6
       clear hss hnm5 hp1 hp2
       go_upto_region 21 with fail
       refine wp_region_two (fun w' => w'.cell? ⟨nb, 6, none⟩ = some (.slice (some ⟨g5', 0, none⟩) (qs.length + 1) z5)) 12 (by kernel_rfl) ?_
       refine tk 0 ?_ rfl (by kernel_rfl) (fun _ _ _ h => h) ‹_› (by rfl) ?_ ?_
       rotate_left
       · (intro w' hSw; (try dsimp only at hSw); go_simp; try with_reducible rfl)
       try simp only [Act.put, sA, sB, sC, sD, sE, sF]
       refine tk 1 ?_ rfl (by kernel_rfl) (fun _ _ _ h => h) ‹_› (by rfl) ?_ ?_
       rotate_left
       · (intro w' hSw; (try dsimp only at hSw); go_simp; try with_reducible rfl)
       try simp only [Act.put, sA, sB, sC, sD, sE, sF]
       refine tk 2 ?_ rfl (by kernel_rfl) (fun _ _ _ h => h) ‹_› (by rfl) ?_ ?_
       rotate_left
       · (intro w' hSw; (try dsimp only at hSw); go_simp; try with_reducible rfl)
       try simp only [Act.put, sA, sB, sC, sD, sE, sF]
       refine tk 3 ?_ rfl (by kernel_rfl) (fun _ _ _ h => h) ‹_› (by rfl) ?_ ?_
       rotate_left
       · (intro w' hSw; (try dsimp only at hSw); go_simp; try with_reducible rfl)
       try simp only [Act.put, sA, sB, sC, sD, sE, sF]
       refine tk 4 ?_ rfl (by kernel_rfl) (fun _ _ _ h => h) ‹_› (by rfl) ?_ ?_
       rotate_left
       · (intro w' hSw; (try dsimp only at hSw); go_simp; try with_reducible rfl)
       try simp only [Act.put, sA, sB, sC, sD, sE, sF]
       refine tk 5 ?_ rfl (by kernel_rfl) (fun _ _ _ h => h) ‹_› (by rfl) ?_ ?_
       rotate_left
       · (intro w' hSw; (try dsimp only at hSw); go_simp; try with_reducible rfl)
       try simp only [Act.put, sA, sB, sC, sD, sE, sF]
       refine tk 6 ?_ rfl (by kernel_rfl) (fun _ _ _ h => h) ‹_› (by rfl) ?_ ?_
       rotate_left
       · (intro w' hSw; (try dsimp only at hSw); go_simp; try with_reducible rfl)
       try simp only [Act.put, sA, sB, sC, sD, sE, sF]
       refine tk 7 ?_ rfl (by kernel_rfl) (fun _ _ _ h => h) ‹_› (by rfl) ?_ ?_
       rotate_left
       · (intro w' hSw; (try dsimp only at hSw); go_simp; try with_reducible rfl)
       try simp only [Act.put, sA, sB, sC, sD, sE, sF]
       refine tk 8 ?_ rfl (by kernel_rfl) (fun _ _ _ h => h) ‹_› (by rfl) ?_ ?_
       rotate_left
       · (intro w' hSw; (try dsimp only at hSw); go_simp; try with_reducible rfl)
       try simp only [Act.put, sA, sB, sC, sD, sE, sF]
       refine tk 9 ?_ rfl (by kernel_rfl) (fun _ _ _ h => h) ‹_› (by rfl) ?_ ?_
       rotate_left
       · (intro w' hSw; (try dsimp only at hSw); go_simp; try with_reducible rfl)
       try simp only [Act.put, sA, sB, sC, sD, sE, sF]
       refine tk 10 ?_ rfl (by kernel_rfl) (fun _ _ _ h => h) ‹_› (by rfl) ?_ ?_
       rotate_left
       · (intro w' hSw; (try dsimp only at hSw); go_simp; try with_reducible rfl)
       try simp only [Act.put, sA, sB, sC, sD, sE, sF]
       refine tk 11 ?_ rfl (by kernel_rfl) (fun _ _ _ h => h) ‹_› (by rfl) ?_ ?_
       rotate_left
       · (intro w' hSw; (try dsimp only at hSw); go_simp; try with_reducible rfl)
       try simp only [Act.put, sA, sB, sC, sD, sE, sF]
       refine wpAnyT_tail (by kernel_rfl) ?_
       simp only [List.drop_succ_cons, List.drop_zero]
       go_wp2
       go_ret
       have HP3 := HP1.out
       rw [List.drop_one] at HP3
       exact ⟨HP2.out, rfl, _, _, _, HP3⟩
   have e5 : ((t.nd.kind : Int) == 5) = false := by simpa using (show ¬ (t.nd.kind : Int) = 5 by omega)
   rw [if_neg hk5] at hr
   dsimp only at hr
   have HR := Lib.hid hr
   have HS1 := HS
   have HF1 := Lib.hid (Fr.refl (NOwn l nb B) w)
   have HB1 := Lib.hid (HB.out.more (Nat.le_succ N))
   clear hr k2 x4 fz HHD
   by_cases hk6 : t.nd.kind = 6
   ·
    have e6 : ((t.nd.kind : Int) == 6) = true := by simpa using (show (t.nd.kind : Int) = 6 by omega)
    go_enter Tryz.func52, Tryz.ntmps52
    go_upto_region 12 with fail
    clear c4 c6 c0 htl
    have HRL0 := Lib.hid (show Hg.nVisitL σ t.ks ≠ .error 0 from fun e => H0.out (by rw [← HR.out, e]))
    obtain ⟨a1, cc1, hh1, hs1, hq1⟩ := (HS1.out.node t HT.out).open_
    have HQ := Lib.hid (show ∀ q, (Value.slice a1 t.ks.length cc1).ownBlock = some q → ¬ NOwn l nb B q from fun q e e' => by
     have hz := hq1 q e
     rcases e' with (e' | ⟨s, hs, e'⟩) | e'
     ·
      exact HAM.out.nbz (e' ▸ hz)
     ·
      exact HAM.out.nz s hs (e' ▸ hz)
     ·
      have := HLW.out.z q hz; omega)
    have HSL := Lib.hid hs1
    have c8 := cell_of_row w t.b 8 _ _ (0, 0) hh1
    simp at c8
    clear hh1 hs1 hq1
    go_wp2
    go_loopw [62] (fun p wr => ∃ (j : Nat) (cvj svj : Value) (ρj : Nat → Nat) (σj : Hg.NmSt), p = .int .i64 (j : Int) ∧ j ≤ t.ks.length ∧ NS l nb Z B ids av next fv mv ub cvj svj qs ρj σj wr ∧ Bd σj (N + 1 + 2 * (GT.blocksL (t.ks.take j)).length) ∧ Fr (NOwn l nb B) w wr ∧ Hg.nVisitL σj (t.ks.drop j) = Hg.nVisitL σ t.ks) (fun p wr => t.ks.length - (intOf p).toNat)
    case atStart => exact ⟨0, _, _, _, _, rfl, Nat.zero_le _, HS1.out, by simpa [GT.blocksL, GT.subsL_nil] using HB1.out, Fr.refl _ _, rfl⟩
    case round =>
     obtain ⟨j, cvj, svj, ρj, σj, rfl, hj, hSj, hBj, hFj, hvj⟩ := hrel
     have HFJ := Lib.hid hFj
     have HBJ := Lib.hid hBj
     by_cases hlt : j < t.ks.length
     ·
      obtain ⟨b, o, rfl, _, kc⟩ := (HSL.out.fr (Nat.le_refl _) hFj HQ.out).mapAt hlt
      have hkm : t.ks[j] ∈ t.ks := List.getElem_mem hlt
      have hk : t.ks[j] ∈ l := HAM.out.kids t HT.out _ hkm
      have hsz : (GT.blocksL (t.ks.take (j + 1))).length = (GT.blocksL (t.ks.take j)).length + t.ks[j].subs.length := by rw [GT.blocksL_take hlt, List.length_append, GT.blocks_len]
      have hsz2 := GT.subsL_take_le t.ks (j + 1)
      rw [List.drop_eq_getElem_cons hlt, Hg.nVisitL_cons] at hvj
      have h0k : Hg.nVisit σj t.ks[j] ≠ .error 0 := fun e => by rw [e] at hvj; exact HRL0.out hvj.symm
      have TI := Lib.hid (IH.out t.ks[j] hk (by have := GT.len_lt hkm; omega) cvj svj _ ρj σj _ wr h0k hBj (by have := HN.out; omega) hSj)
      have HVJ := Lib.hid hvj
      have HSZ := Lib.hid hsz
      clear hkm hk hsz hsz2 h0k hSj hBj hFj hvj
      go_wp2_with fail
      refine TI.out.mono ?_
      rintro e w3 ⟨hF3, hres⟩
      have HF3 := Lib.hid (HFJ.out.trans hF3)
      have hvj := HVJ.out
      cases hrk : Hg.nVisit σj t.ks[j] with
      | error ek =>
        rw [hrk] at hres hvj
        replace hres : e = .returned (.int .i64 (errNo ek : Int)) := hres
        subst hres
        have hre : r = .error ek := by rw [← HR.out, ← hvj]
        have hq : ((errNo ek : Int) != 0) = true := by unfold errNo; split <;> rfl
        subst hre
        clear TI HVJ hF3 hvj hrk
        go_wp2
        go_ret
        exact ⟨HF1.out.trans HF3.out, rfl⟩
      | ok σ' =>
        rw [hrk] at hres hvj
        obtain ⟨rfl, cv', sv', ρ', hS'⟩ := hres
        have HS' := Lib.hid hS'
        have HVK := Lib.hid hvj
        have HBK := Lib.hid (Hg.nVisit_bd _ _ (Nat.le_refl _) _ _ _ HBJ.out hrk)
        clear TI HVJ hF3 hS' hvj hrk
        go_wp2
        go_roundw
        case rel => exact ⟨j + 1, cv', sv', ρ', σ', by go_num, by omega, HS'.out, by rw [HSZ.out]; exact HBK.out.more (by omega), HF3.out, HVK.out⟩
        case measure => simp [intOf]; omega
     ·
      obtain rfl : j = t.ks.length := by omega
      rw [List.drop_length, Hg.nVisitL_nil] at hvj
      have hfin : Hg.nTail σj t = r := by rw [← HR.out, ← hvj]
      have HFIN := Lib.hid hfin
      have HSJ := Lib.hid hSj
      have HFW := Lib.hid (HF1.out.trans hFj)
      obtain ⟨a2, cc2, hh2, -, -⟩ := (hSj.node t HT.out).open_
      have c0 := cell_of_row wr t.b 0 _ _ (0, 0) hh2
      simp at c0
      clear hh2 hSj hBj hFj hvj hfin
      have hde : σj.declare t = r := by rw [← HFIN.out]; unfold Hg.nTail; rw [if_neg hk5, if_pos hk6]
      have TD := Lib.hid (declare_any l nb Z B HLW.out.z ids av next fv mv ub cvj svj qs ρj σj t HT.out (HLEN.out t HT.out).1 r hde H0.out _ HBJ.out (by have := HN.out; have := GT.subsL_take_le t.ks t.ks.length; omega) wr HSJ.out)
      clear hde
      go_wp2_with fail
      refine TD.out.mono ?_
      rintro e w3 ⟨hF3, hres⟩
      have HF3 := Lib.hid (HFW.out.trans hF3)
      cases r with
      | error ek =>
        replace hres : e = .returned (.int .i64 (errNo ek : Int)) := hres
        subst hres
        clear TD hF3
        go_wp2
        go_ret
        exact ⟨HF3.out, rfl⟩
      | ok σ' =>
        obtain ⟨rfl, cv', sv', ρ', hS'⟩ := hres
        have HS' := Lib.hid hS'
        clear TD hF3 hS'
        go_wp2
        go_ret
        exact ⟨HF3.out, rfl, _, _, _, HS'.out⟩
   ·
    have e6 : ((t.nd.kind : Int) == 6) = false := by simpa using (show ¬ (t.nd.kind : Int) = 6 by omega)
    have hn5 := hk5
    have hn6 := hk6
    go_enter Tryz.func52, Tryz.ntmps52
    go_upto_region 12 with fail
    clear c4 c6 c0 htl
    have HRL0 := Lib.hid (show Hg.nVisitL σ t.ks ≠ .error 0 from fun e => H0.out (by rw [← HR.out, e]))
    obtain ⟨a1, cc1, hh1, hs1, hq1⟩ := (HS1.out.node t HT.out).open_
    have HQ := Lib.hid (show ∀ q, (Value.slice a1 t.ks.length cc1).ownBlock = some q → ¬ NOwn l nb B q from fun q e e' => by
     have hz := hq1 q e
     rcases e' with (e' | ⟨s, hs, e'⟩) | e'
     ·
      exact HAM.out.nbz (e' ▸ hz)
     ·
      exact HAM.out.nz s hs (e' ▸ hz)
     ·
      have := HLW.out.z q hz; omega)
    have HSL := Lib.hid hs1
    have c8 := cell_of_row w t.b 8 _ _ (0, 0) hh1
    simp at c8
    clear hh1 hs1 hq1
    go_wp2
    go_loopw [62] (fun p wr => ∃ (j : Nat) (cvj svj : Value) (ρj : Nat → Nat) (σj : Hg.NmSt), p = .int .i64 (j : Int) ∧ j ≤ t.ks.length ∧ NS l nb Z B ids av next fv mv ub cvj svj qs ρj σj wr ∧ Bd σj (N + 1 + 2 * (GT.blocksL (t.ks.take j)).length) ∧ Fr (NOwn l nb B) w wr ∧ Hg.nVisitL σj (t.ks.drop j) = Hg.nVisitL σ t.ks) (fun p wr => t.ks.length - (intOf p).toNat)
    case atStart => exact ⟨0, _, _, _, _, rfl, Nat.zero_le _, HS1.out, by simpa [GT.blocksL, GT.subsL_nil] using HB1.out, Fr.refl _ _, rfl⟩
    case round =>
     obtain ⟨j, cvj, svj, ρj, σj, rfl, hj, hSj, hBj, hFj, hvj⟩ := hrel
     have HFJ := Lib.hid hFj
     have HBJ := Lib.hid hBj
     by_cases hlt : j < t.ks.length
     ·
      obtain ⟨b, o, rfl, _, kc⟩ := (HSL.out.fr (Nat.le_refl _) hFj HQ.out).mapAt hlt
      have hkm : t.ks[j] ∈ t.ks := List.getElem_mem hlt
      have hk : t.ks[j] ∈ l := HAM.out.kids t HT.out _ hkm
      have hsz : (GT.blocksL (t.ks.take (j + 1))).length = (GT.blocksL (t.ks.take j)).length + t.ks[j].subs.length := by rw [GT.blocksL_take hlt, List.length_append, GT.blocks_len]
      have hsz2 := GT.subsL_take_le t.ks (j + 1)
      rw [List.drop_eq_getElem_cons hlt, Hg.nVisitL_cons] at hvj
      have h0k : Hg.nVisit σj t.ks[j] ≠ .error 0 := fun e => by rw [e] at hvj; exact HRL0.out hvj.symm
      have TI := Lib.hid (IH.out t.ks[j] hk (by have := GT.len_lt hkm; omega) cvj svj _ ρj σj _ wr h0k hBj (by have := HN.out; omega) hSj)
      have HVJ := Lib.hid hvj
      have HSZ := Lib.hid hsz
      clear hkm hk hsz hsz2 h0k hSj hBj hFj hvj
      go_wp2_with fail
      refine TI.out.mono ?_
      rintro e w3 ⟨hF3, hres⟩
      have HF3 := Lib.hid (HFJ.out.trans hF3)
      have hvj := HVJ.out
      cases hrk : Hg.nVisit σj t.ks[j] with
      | error ek =>
        rw [hrk] at hres hvj
        replace hres : e = .returned (.int .i64 (errNo ek : Int)) := hres
        subst hres
        have hre : r = .error ek := by rw [← HR.out, ← hvj]
        have hq : ((errNo ek : Int) != 0) = true := by unfold errNo; split <;> rfl
        subst hre
        clear TI HVJ hF3 hvj hrk
        go_wp2
        go_ret
        exact ⟨HF1.out.trans HF3.out, rfl⟩
      | ok σ' =>
        rw [hrk] at hres hvj
        obtain ⟨rfl, cv', sv', ρ', hS'⟩ := hres
        have HS' := Lib.hid hS'
        have HVK := Lib.hid hvj
        have HBK := Lib.hid (Hg.nVisit_bd _ _ (Nat.le_refl _) _ _ _ HBJ.out hrk)
        clear TI HVJ hF3 hS' hvj hrk
        go_wp2
        go_roundw
        case rel => exact ⟨j + 1, cv', sv', ρ', σ', by go_num, by omega, HS'.out, by rw [HSZ.out]; exact HBK.out.more (by omega), HF3.out, HVK.out⟩
        case measure => simp [intOf]; omega
     ·
      obtain rfl : j = t.ks.length := by omega
      rw [List.drop_length, Hg.nVisitL_nil] at hvj
      have hfin : Hg.nTail σj t = r := by rw [← HR.out, ← hvj]
      have HFIN := Lib.hid hfin
      have HSJ := Lib.hid hSj
      have HFW := Lib.hid (HF1.out.trans hFj)
      obtain ⟨a2, cc2, hh2, -, -⟩ := (hSj.node t HT.out).open_
      have c0 := cell_of_row wr t.b 0 _ _ (0, 0) hh2
      simp at c0
      clear hh2 hSj hBj hFj hvj hfin
      have hre : r = .ok σj := by rw [← HFIN.out]; unfold Hg.nTail; rw [if_neg (by omega), if_neg (by omega)]
      subst hre
      go_wp2
      go_ret
      exact ⟨HFW.out, rfl, _, _, _, HSJ.out⟩
end Go.Proofs.YtoelmnamlnbdhaaGreatDoor
