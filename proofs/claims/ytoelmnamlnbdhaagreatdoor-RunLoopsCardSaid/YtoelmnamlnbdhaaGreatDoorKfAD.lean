/-
  Part of a proof of RunLoops: contracts of functions that the claim reaches, and plain lemmas.
-/
import Derived.Test.YtoelmnamlnbdhaaGreatDoorKfAC
import Derived.Maps.AppendAt
import Derived.OwnWalk
set_option linter.all false
namespace Go.Proofs.YtoelmnamlnbdhaaGreatDoor
open Go.RowKit
structure Own where
 v : Value
 e : TypeId
 sz : Nat
 n : Nat
 xs : List Value
def Own.at_ (o : Own) (w : World) (base : Nat) : Prop := w.ownsRow base o.e o.sz o.v o.n o.xs
def OwnAll (w : World) (base : Nat) (os : List Own) : Prop :=
 (∀ o ∈ os, o.at_ w base) ∧ os.Pairwise (fun a b => ∀ g, a.v.ownBlock = some g → b.v.ownBlock ≠ some g)
theorem OwnAll.keep {w w' : World} {base : Nat} {os : List Own} (h : OwnAll w base os) (hk : ∀ g, base ≤ g → g < w.heap.size → w'.heap[g]? = w.heap[g]?) : OwnAll w' base os := by
 refine ⟨fun o ho => ?_, h.2⟩
 have h1 := h.1 o ho
 refine ⟨h1.1, ?_⟩
 rcases h1.2 with hn | ⟨g, cap, cur, hv, hb, hg, rest⟩
 ·
  exact .inl hn
 ·
  exact .inr ⟨g, cap, cur, hv, hb, by rw [hk g hb (Array.getElem?_eq_some_iff.1 hg).1]; exact hg, rest⟩
theorem OwnAll.below {w w' : World} {base B : Nat} {os : List Own} (h : OwnAll w base os) (hb : Below B w w') (hB : w.heap.size ≤ B) : OwnAll w' base os :=
 h.keep fun g _ hg => hb.block g (by omega)
theorem OwnAll.alloc {w : World} {base : Nat} {os : List Own} (h : OwnAll w base os) (o : Obj) : OwnAll (w.alloc o) base os :=
 h.keep fun g _ hg => Below.heap_alloc w o g hg
theorem OwnAll.setCell {w : World} {base : Nat} {os : List Own} (h : OwnAll w base os) {p : Addr} (hp : p.block < base) (u : Value) : OwnAll (w.setCell p u) base os :=
 h.keep fun g hg _ => Below.heap_setCell w p u g (by omega)
theorem OwnAll.turn {w w' : World} {base : Nat} {l1 l2 : List Own} {o o' : Own} (h : OwnAll w base (l1 ++ o :: l2)) (ho : o'.at_ w' base) (hg : w.grownBy w' o.v.ownBlock)
 (hb : ∀ g, o'.v.ownBlock = some g → o.v.ownBlock = some g ∨ w.heap.size ≤ g) : OwnAll w' base (l1 ++ o' :: l2) := by
 obtain ⟨h1, h2⟩ := h
 rw [List.pairwise_append, List.pairwise_cons] at h2
 obtain ⟨p1, ⟨p2, p3⟩, p4⟩ := h2
 have other : ∀ x : Own, x.at_ w base → (∀ g, o.v.ownBlock = some g → x.v.ownBlock ≠ some g) → x.at_ w' base := fun x hx hne =>
  World.ownsRow.kept hx hg (by
   cases hv : x.v.ownBlock with
   | none => exact .inl rfl
   | some g =>
     right; intro he
     exact hne g he.symm hv)
 have fresh : ∀ x : Own, x.at_ w base → (∀ g, o.v.ownBlock = some g → x.v.ownBlock ≠ some g) → ∀ g, o'.v.ownBlock = some g → x.v.ownBlock ≠ some g := fun x hx hne g hg' => by
  rcases hb g hg' with he | he
  ·
   exact hne g he
  ·
   intro hx'
   have := (World.ownsRow.lt hx g hx').2
   omega
 refine ⟨fun x hx => ?_, ?_⟩
 ·
  rcases List.mem_append.1 hx with hx1 | hx1
  ·
   exact other x (h1 x (by simp [hx1])) fun g hg' hx' => p4 x hx1 o (by simp) g hx' hg'
  ·
   rcases List.mem_cons.1 hx1 with rfl | hx2
   ·
    exact ho
   ·
    exact other x (h1 x (by simp [hx2])) fun g hg' => p2 x hx2 g hg'
 ·
  rw [List.pairwise_append, List.pairwise_cons]
  refine ⟨p1, ⟨fun x hx g hg' => fresh x (h1 x (by simp [hx])) (p2 x hx) g hg', p3⟩, fun x hx y hy => ?_⟩
  rcases List.mem_cons.1 hy with rfl | hy
  ·
   intro g hg1 hg2
   exact fresh x (h1 x (by simp [hx])) (fun g' hg' hx' => p4 x hx o (by simp) g' hx' hg') g hg2 hg1
  ·
   exact p4 x hx y (by simp [hy])
def Own.nil (e : TypeId) (sz : Nat) : Own := ⟨.slice none 0 0, e, sz, 0, []⟩
structure Lite (rb : Nat) (w w' : World) : Prop where
 below : Below rb w w'
 c4 : w'.cell? ⟨rb, 4, none⟩ = w.cell? ⟨rb, 4, none⟩
 other : ∀ b, b ≠ rb → w'.heap[b]? = w.heap[b]?
theorem Lite.refl (rb : Nat) (w : World) : Lite rb w w := ⟨Below.refl _ _, rfl, fun _ _ => rfl⟩
theorem Lite.trans {rb : Nat} {a b c : World} (h : Lite rb a b) (k : Lite rb b c) : Lite rb a c := ⟨h.below.trans k.below, k.c4.trans h.c4, fun i hi => (k.other i hi).trans (h.other i hi)⟩
theorem Lite.drewN (rb : Nat) (w : World) (n : Nat) : Lite rb w (w.drewN n) := ⟨below_drewN (Below.refl _ _) n, rfl, fun _ _ => rfl⟩
theorem Lite.setCell {rb : Nat} {a w : World} (h : Lite rb a w) {i : Nat} (hi : i ≠ 4) (u : Value) : Lite rb a (w.setCell ⟨rb, i, none⟩ u) := by
 refine h.trans ⟨(Below.refl _ _).setCell (p := ⟨rb, i, none⟩) (Nat.le_refl _) _, ?_, fun b hb => Below.heap_setCell w ⟨rb, i, none⟩ u b hb⟩
 exact World.cell?_setCell_other w ⟨rb, i, none⟩ ⟨rb, 4, none⟩ u (by simp [hi])
theorem Lite.cell {rb : Nat} {w w' : World} (h : Lite rb w w') {p : Addr} (hp : p.block ≠ rb) : w'.cell? p = w.cell? p := World.cell?_of_block (h.other _ hp)
theorem heap_setCell_same {w : World} {b i : Nat} {cs : Array Value} {t : TypeId} (h : w.heap[b]? = some (.cells cs t (0, 0))) (u : Value) :
 (w.setCell ⟨b, i, none⟩ u).heap[b]? = some (.cells (cs.setIfInBounds i u) t (0, 0)) := by
 simp [World.setCell, Array.getElem?_modify, h]
theorem Sl.setCell {w : World} {B : Nat} {v : Value} {n : Nat} {xs : List Value} (h : Sl w B v n xs) {p : Addr} (hp : B ≤ p.block) (u : Value) : Sl (w.setCell p u) B v n xs :=
 h.keep fun q hq => World.cell?_of_block (Below.heap_setCell w p u q.block (by omega))
section
end
end Go.Proofs.YtoelmnamlnbdhaaGreatDoor
