/-
  Part of a proof of RunLoops: contracts of functions that the claim reaches, and plain lemmas.
-/
import Derived.Test.YtoelmnamlnbdhaaGreatDoorKfBF
set_option linter.all false
namespace Go.Proofs.YtoelmnamlnbdhaaGreatDoor
open Go.RowKit
open Hg (GT gl)
theorem ownsRow_base {w : World} {base base' : Nat} {e : TypeId} {size : Nat} {v : Value} {n : Nat} {xs : List Value} (h : w.ownsRow base e size v n xs) (hb : base' ≤ base) : w.ownsRow base' e size v n xs := by
 obtain ⟨h1, h2⟩ := h
 refine ⟨h1, ?_⟩
 rcases h2 with h2 | ⟨g, cap, cur, hv, hg, h3⟩
 ·
  exact .inl h2
 ·
  exact .inr ⟨g, cap, cur, hv, Nat.le_trans hb hg, h3⟩
def CloneResO (w : World) (ids : List Nat) (e : Ending) (w' : World) : Prop :=
 ∃ v, e = .returned v ∧ w'.ownsRow w.heap.size 45 1 v ids.length (ids.map idV) ∧ Below w.heap.size w w'
set_option maxHeartbeats 4000000 in
set_option maxRecDepth 100000 in
theorem cloneO_any (B : Nat) (v : Value) (ids : List Nat) (w : World) (hB : B ≤ w.heap.size) (hs : Sl w B v ids.length (ids.map idV)) (hl : ids.length ≤ 1000000) :
 Calls Tryz.prog 91 #[v] w (CloneResO w ids) := by
 obtain ⟨j0, hj, hj0, hj1, hj2⟩ := info_parts idInfo30
 obtain ⟨a, c, rfl⟩ := hs.form
 have HS := Lib.hid hs
 clear hs
 cases a with
 | none =>
   have h0 : ids = [] := by
    obtain ⟨a', c', hv, hc⟩ := HS.out
    injection hv with h1 h2 h3
    cases ids with
    | nil => rfl
    | cons x xs => obtain ⟨b, o, ha, _⟩ := hc (by simp); rw [← h1] at ha; cases ha
   subst h0
   have hnil := Go.Lib.run_eql_slice_nil (P := Tryz.prog) w 68 45 none 0 c 0 0 Tryz.underlying68
   go_enter Tryz.func91, Tryz.ntmps91
   go_wp2_with fail
   go_ret
   exact ⟨.slice none 0 0, rfl, ⟨rfl, .inl ⟨rfl, rfl⟩⟩, Below.refl _ _⟩
 | some a =>
   have hnil := Go.Lib.run_eql_slice_nil (P := Tryz.prog) w 68 45 (some a) ids.length c 0 0 Tryz.underlying68
   go_enter Tryz.func91, Tryz.ntmps91
   go_wp2_with (at_builtin; refine wpList_append_sl _ rfl (.tmp 5) (.tmp 6) _ rfl w.heap.size 45 j0 _ 8 Tryz.underlying68 hj hj0 hj1 hj2 rfl _ _ _ rfl (ownsRow_empty _ _ _ ?_) B _ _ _ rfl (HS.out.alloc ?_ _) ?_ (ids_one _) ?_ ?_ ?_ ?_)
   ·
    omega
   ·
    omega
   ·
    simp
   ·
    unfold maxLen; omega
   ·
    omega
   ·
    simp
   intro v3 W3 own3 g3 at3
   try simp only [Nat.zero_add, List.nil_append] at own3
   have hb3 : Below w.heap.size w W3 := ((Below.refl w.heap.size w).alloc (Nat.le_refl _) _).grown g3 (by simp) (fun k hk => by simp [Value.ownBlock] at hk; omega)
   have HO3 := Lib.hid own3
   have hs3 : Sl W3 W3.heap.size v3 ids.length (ids.map idV) := Sl.of_own own3
   obtain ⟨a3, c3, rfl⟩ := hs3.form
   clear hs3 own3 at3 g3
   go_wp2
   go_ret
   exact ⟨_, rfl, HO3.out, hb3⟩
def WholeResO (w : World) (n : Hg.Node) (e : Ending) (w' : World) : Prop :=
 ∃ ka kc, e = .returned (ndV n ka kc) ∧ w'.ownsRow (w.heap.size + 2) 45 1 (.slice ka n.kids.length kc) n.kids.length (n.kids.map idV) ∧ Below w.heap.size w w'
theorem own_set_ne {w : World} {base : Nat} {e : TypeId} {size : Nat} {v : Value} {n : Nat} {xs : List Value} (h : w.ownsRow base e size v n xs) {p : Addr} (hp : p.block < base) (u : Value) : (w.setCell p u).ownsRow base e size v n xs :=
 ownsRow_fr h ((Fr.refl (fun q => q = p.block) w).set (p := p) (.inl rfl) u) (fun q e e' => by have := (h.lt q e).1; omega)
theorem set7_own {w1 : World} {base g g' j : Nat} {e : TypeId} {v : Value} {n : Nat} {xs : List Value} (h : w1.ownsRow base e 1 v n xs) (hg : g < base) (hg' : g' < base) (u u0 u1 u2 u3 u4 u5 : Value) :
 (((((((w1.setCell ⟨g', j, none⟩ u).setCell ⟨g, 0, none⟩ u0).setCell ⟨g, 1, none⟩ u1).setCell ⟨g, 2, none⟩ u2).setCell ⟨g, 3, none⟩ u3).setCell ⟨g, 4, none⟩ u4).setCell ⟨g, 5, none⟩ u5).ownsRow base e 1 v n xs :=
 own_set_ne (own_set_ne (own_set_ne (own_set_ne (own_set_ne (own_set_ne (own_set_ne h hg' _) hg _) hg _) hg _) hg _) hg _) hg _
theorem set6_own {w1 : World} {base g : Nat} {e : TypeId} {v : Value} {n : Nat} {xs : List Value} (h : w1.ownsRow base e 1 v n xs) (hg : g < base) (u0 u1 u2 u3 u4 u5 : Value) :
 ((((((w1.setCell ⟨g, 0, none⟩ u0).setCell ⟨g, 1, none⟩ u1).setCell ⟨g, 2, none⟩ u2).setCell ⟨g, 3, none⟩ u3).setCell ⟨g, 4, none⟩ u4).setCell ⟨g, 5, none⟩ u5).ownsRow base e 1 v n xs :=
 own_set_ne (own_set_ne (own_set_ne (own_set_ne (own_set_ne (own_set_ne h hg _) hg _) hg _) hg _) hg _) hg _
set_option maxHeartbeats 4000000 in
set_option maxRecDepth 100000 in
theorem wholeO_any (B : Nat) (n : Hg.Node) (ka : Option Addr) (kc : Nat) (w : World) (hB : B ≤ w.heap.size) (hs : Sl w B (.slice ka n.kids.length kc) n.kids.length (n.kids.map idV)) (hl : n.kids.length ≤ 1000000) :
 Calls Tryz.prog 53 #[ndV n ka kc] w (WholeResO w n) := by
 have HS := Lib.hid hs
 clear hs
 go_enter Tryz.func53, Tryz.ntmps53
 go_wp2_with fail
 refine (cloneO_any B _ n.kids _ (by simp; omega) ((HS.out.alloc hB _).alloc (by simp; omega) _) hl).mono ?_
 rintro e w1 ⟨v, rfl, ho1, hb1⟩
 obtain ⟨ka1, kc1, rfl⟩ := (Sl.of_own ho1).form
 obtain ⟨hh1, hh2, hsz, hbb⟩ := two_blocks hb1
 have HO1 := Lib.hid (show w1.ownsRow (w.heap.size + 2) 45 1 (.slice ka1 n.kids.length kc1) n.kids.length (n.kids.map idV) from by simpa using ho1)
 have c1 := fun i => cell_of_row w1 w.heap.size i _ _ (0, 0) hh1
 have k0 := c1 0; have k1 := c1 1; have k2 := c1 2; have k3 := c1 3; have k4 := c1 4; have k5 := c1 5
 simp at k0 k1 k2 k3 k4 k5
 have c2 := fun i => cell_of_row w1 (w.heap.size + 1) i _ _ (0, 0) hh2
 have z0 := c2 0; have z1 := c2 1; have z2 := c2 2; have z3 := c2 3; have z4 := c2 4; have z5 := c2 5
 simp at z0 z1 z2 z3 z4 z5
 have f1 : ∀ i, w1.frozen? ⟨w.heap.size, i, none⟩ = false := fun i => by simp [World.frozen?, hh1]
 have f2 : ∀ i, w1.frozen? ⟨w.heap.size + 1, i, none⟩ = false := fun i => by simp [World.frozen?, hh2]
 clear ho1 hb1 hh1 hh2 c1 c2
 go_wp2
 exact bodyPost_ret (v := ndV n ka1 kc1) (by simp [results, Tryz.results53, go_sem, k0, k1, k2, k3, k4, k5, z0, z1, z2, z3, z4, z5, f1, f2]) rfl
  ⟨ka1, kc1, rfl, set7_own HO1.out (by omega) (by omega) _ _ _ _ _ _ _, set6_below (hbb.setCell (p := ⟨w.heap.size, 5, none⟩) (Nat.le_refl _) _) (by omega) _ _ _ _ _ _⟩
def GetResO (w : World) (o : Option Hg.Node) (e : Ending) (w' : World) : Prop :=
 ∃ ka kc, e = .returned (.tuple #[ndV (o.getD Hg.Node.zero) ka kc, .bool o.isSome]) ∧ w'.ownsRow w.heap.size 45 1 (.slice ka (o.getD Hg.Node.zero).kids.length kc) (o.getD Hg.Node.zero).kids.length ((o.getD Hg.Node.zero).kids.map idV) ∧ Below w.heap.size w w'
def GetResO1 (w : World) (nd : Hg.Node) (s : Bool) (e : Ending) (w' : World) : Prop :=
 ∃ ka kc, e = .returned (.tuple #[ndV nd ka kc, .bool s]) ∧ w'.ownsRow w.heap.size 45 1 (.slice ka nd.kids.length kc) nd.kids.length (nd.kids.map idV) ∧ Below w.heap.size w w'
set_option maxHeartbeats 4000000 in
set_option maxRecDepth 100000 in
theorem getO_any (ab mb c : Nat) (M : Nat → Option Hg.Node) (id : Nat) (w : World) (hA : ArAt w ab mb c M) (hid : id < idTop) :
 Calls Tryz.prog 33 #[.pointer (some ⟨ab, 0, none⟩), .int .u64 (id : Int)] w (GetResO w (M id)) := by
 obtain ⟨c0, f0⟩ := hA.read
 have hlt := hA.lt
 have hb0 : ∀ z, Below w.heap.size w (w.alloc (.cells z 70)) := fun z => (Below.refl _ _).alloc (Nat.le_refl _) _
 have hlen := hA.map.len id
 obtain ⟨ka, kc, hlk, hks⟩ := (hA.below (hb0 #[.int .u8 0, .string ⟨#[]⟩, .int .i64 0, .int .u8 0, .int .u64 0, .slice none 0 0]) (Nat.le_refl _)).map.look1 hid
 refine Calls.mono (R := GetResO1 w ((M id).getD Hg.Node.zero) (M id).isSome) ?_ (fun e w' h => h)
 generalize (M id).getD Hg.Node.zero = nd at hlk hks hlen ⊢
 generalize (M id).isSome = s at hlk ⊢
 have HS := Lib.hid hks
 clear hA hid hb0 hks
 go_enter Tryz.func33, Tryz.ntmps33
 go_wp2_with fail
 refine (wholeO_any _ nd ka kc _ (by simp) (HS.out.alloc (Nat.le_refl _) _) hlen).mono ?_
 rintro e w1 ⟨ka1, kc1, rfl, ho1, hb1⟩
 obtain ⟨hh1, hh2, hsz, hbb⟩ := two_blocks hb1
 have HO1 := Lib.hid (show w1.ownsRow (w.heap.size + 1) 45 1 (.slice ka1 nd.kids.length kc1) nd.kids.length (nd.kids.map idV) from ownsRow_base ho1 (by simp))
 have c2 := fun i => cell_of_row w1 w.heap.size i _ _ (0, 0) hh1
 have z0 := c2 0; have z1 := c2 1; have z2 := c2 2; have z3 := c2 3; have z4 := c2 4; have z5 := c2 5
 simp at z0 z1 z2 z3 z4 z5
 have f2 : ∀ i, w1.frozen? ⟨w.heap.size, i, none⟩ = false := fun i => by simp [World.frozen?, hh1]
 clear ho1 hb1 hh1 hh2 c2 hlk
 go_wp2
 exact bodyPost_ret (v := .tuple #[ndV nd ka1 kc1, .bool s]) (by simp [results, Tryz.results33, go_sem, z0, z1, z2, z3, z4, z5, f2]) rfl
  ⟨ka1, kc1, rfl, ownsRow_base (set6_own HO1.out (by omega) _ _ _ _ _ _) (by omega), set6_below hbb (Nat.le_refl _) _ _ _ _ _ _⟩
end Go.Proofs.YtoelmnamlnbdhaaGreatDoor
