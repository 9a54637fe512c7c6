/-
  Part of a proof of RunLoops: contracts of functions that the claim reaches, and plain lemmas.
-/
import Derived.Test.YtoelmnamlnbdhaaGreatDoorKfBO
set_option linter.all false
namespace Hg
def okT (M : Nat → Option Node) (abv : Nat → Nat) (x : Nat × Node) : Bool :=
 (!(x.2.kind == 19) || (wantsK M abv x.1 x.2).length == x.2.kids.length) && (wantsK M abv x.1 x.2).zipIdx.all fun p => typeK M (x.2.kids.getD p.2 0) == p.1
theorem okT_iff (M : Nat → Option Node) (abv : Nat → Nat) (x : Nat × Node) : okT M abv x = true ↔ (x.2.kind = 19 → (wantsK M abv x.1 x.2).length = x.2.kids.length) ∧ ∀ i t, (wantsK M abv x.1 x.2)[i]? = some t → typeK M (x.2.kids.getD i 0) = t := by
 unfold okT
 rw [Bool.and_eq_true, List.all_eq_true]
 constructor
 ·
  rintro ⟨h1, h2⟩
  refine ⟨fun hk => ?_, fun i t hi => ?_⟩
  ·
   rw [hk] at h1
   simpa using h1
  ·
   have := h2 (t, i) (List.mem_zipIdx_iff_getElem?.2 hi)
   simpa using this
 ·
  rintro ⟨h1, h2⟩
  refine ⟨?_, fun p hp => ?_⟩
  ·
   by_cases hk : x.2.kind = 19
   ·
    simp [hk, h1 hk]
   ·
    simp [hk]
  ·
   obtain ⟨t, i⟩ := p
   have := h2 i t (List.mem_zipIdx_iff_getElem?.1 hp)
   simpa using this
def RB (M : Nat → Option Node) : Prop := ∀ i nd, M i = some nd → nd.ref < 18446744073709551616
theorem RB.at {M : Nat → Option Node} (h : RB M) (i : Nat) : (ndAt M i).ref < 18446744073709551616 := by
 unfold ndAt
 cases hM : M i with
 | none => simp [Node.zero]
 | some nd => exact h i nd hM
theorem wk_mem (M : Nat → Option Node) : ∀ (f : Nat) (s seen : List Nat) (r : List (Nat × Node)), wk M f s seen = some r → ∀ x ∈ r, M x.1 = some x.2
 | 0, _, _, _, h => by cases h
 | f + 1, [], _, r, h => by rw [wk_nil] at h; injection h with h; subst h; intro x hx; simp at hx
 | f + 1, i :: s, seen, r, h => by
   rw [wk_cons] at h
   cases hM : M i with
   | none => rw [hM] at h; exact wk_mem M f s seen r h
   | some n =>
     rw [hM] at h
     dsimp only at h
     by_cases hi : i ∈ seen
     ·
      rw [if_pos hi] at h; exact wk_mem M f s seen r h
     ·
      rw [if_neg hi] at h
      cases hw : wk M f (n.kids ++ s) (i :: seen) with
      | none => rw [hw] at h; cases h
      | some r' =>
        rw [hw] at h
        have h : (i, n) :: r' = r := Option.some.inj h
        intro x hx
        rw [← h] at hx
        rcases List.mem_cons.1 hx with e | e
        ·
         subst e; exact hM
        ·
         exact wk_mem M f _ _ r' hw x e
end Hg
namespace Go.Proofs.YtoelmnamlnbdhaaGreatDoor
open Go.RowKit
open Hg (GT gl wk isK ndAt kidsK KB typeK pairK wantsK okT RB)
attribute [local go_sem] Oper.semAt_some
def typA (p1 p2 p3 p4 : Value) (a : Act) : Prop := ∃ u0 u5 u6 u7 u8 u9 u10 u11 u12 u13 u14 u15 u16 u17 u18 u19 u20 u21 u22 u23 u24 u25 u26 u27 u28 u29 u30 u31 u32 u33 u34 u35 u36 u37 u38 u39 u40 u41 u42 u43 u44 u45 : Value, a = { tmps := #[u0, p1, p2, p3, p4, u5, u6, u7, u8, u9, u10, u11, u12, u13, u14, u15, u16, u17, u18, u19, u20, u21, u22, u23, u24, u25, u26, u27, u28, u29, u30, u31, u32, u33, u34, u35, u36, u37, u38, u39, u40, u41, u42, u43, u44, u45], defers := [] }
def TypR (ab B : Nat) (S : Nat → Prop) (x : WItem) (a : Act) (A : World) : Prop :=
 ∃ S0 blk, BoxI ab B S0 A ∧ typA (.pointer (some ⟨B, 0, none⟩)) (.pointer (some ⟨B + 1, 0, none⟩)) (idV x.id) (.pointer (some ⟨blk, 0, none⟩)) a ∧ A.heap[blk]? = some (.cells (ndCells x.nd x.ka x.kc) 70 (0, 0)) ∧ x.At A ∧ (∀ q, S q ↔ S0 q ∨ q = blk) ∧ ¬ S0 blk
def TypX (M : Nat → Option Hg.Node) (abv : Nat → Nat) (xs : List (Nat × Hg.Node)) (ab B : Nat) (c : Code) (S : Nat → Prop) (A : World) : Prop := c = .ret ∧ BoxI ab B S A ∧ A.heap[B + 1]? = some (.cells #[.bool false] 4 (0, 0)) ∧ xs.all (okT M abv) = false
set_option maxHeartbeats 16000000 in
set_option maxRecDepth 100000 in
theorem typed_any (ab : Nat) (M : Nat → Option Hg.Node) (abv : Nat → Nat) (hV : AbvOk M abv) (hRB : RB M) (F : Nat) (xs : List (Nat × Hg.Node)) (w : World) (hA : ArOk w ab M) (hxs : wk M F [1] [] = some xs) (hF : F ≤ 1000000) (hid : ∀ x ∈ xs, x.1 ≤ 1000000)
 (h18 : ∀ x ∈ xs, x.2.kind = 18 → 0 < x.2.kids.length) (hidx : ∀ x ∈ xs, x.2.kind ≠ 19 → (wantsK M abv x.1 x.2).length ≤ x.2.kids.length) :
 Calls Tryz.prog 28 #[.pointer (some ⟨ab, 0, none⟩)] w fun e w' => e = .returned (.bool (xs.all (okT M abv))) ∧ Below w.heap.size w w' := by
 have HA := Lib.hid hA
 have HV := Lib.hid hV
 have HRB := Lib.hid hRB
 have HALL := Lib.hid (And.intro hid (And.intro h18 hidx))
 have TW := Lib.hid (walk_any ab 1)
 have TR := Lib.hid (root_any ab)
 have HMM := Lib.hid (Hg.wk_mem M F _ _ _ hxs)
 clear hV hRB hid h18 hidx
 refine (callsIn_wide (n := 5)).1 (callsIn_of_wp_marks Tryz.func28 rfl trivial ?_ rfl)
 simp only [Tryz.ntmps28, List.size_toArray, List.length_cons, List.length_nil, Nat.reduceAdd, Nat.reduceSub, Array.replicate_succ, Array.replicate_zero, List.push_toArray, List.append_toArray, List.nil_append, List.cons_append]
 gi_wp2
 refine wpIn_wide.2 (wp_calm ?_)
 have hb0 : Below w.heap.size w ((w.alloc (.cells #[.pointer (some ⟨ab, 0, none⟩)] 24)).alloc (.cells #[.bool false] 4)) := ((Below.refl _ _).alloc (Nat.le_refl _) _).alloc (by simp) _
 have h0 : ((w.alloc (.cells #[.pointer (some ⟨ab, 0, none⟩)] 24)).alloc (.cells #[.bool false] 4)).heap[w.heap.size]? = some (.cells #[.pointer (some ⟨ab, 0, none⟩)] 24 (0, 0)) := (heap_alloc_old _ _ (by simp)).trans (heap_alloc_new w _)
 have h1 : ((w.alloc (.cells #[.pointer (some ⟨ab, 0, none⟩)] 24)).alloc (.cells #[.bool false] 4)).heap[w.heap.size + 1]? = some (.cells #[.bool false] 4 (0, 0)) := by
  have := heap_alloc_new (w.alloc (.cells #[.pointer (some ⟨ab, 0, none⟩)] 24)) (.cells #[.bool false] 4)
  rw [show (w.alloc (.cells #[.pointer (some ⟨ab, 0, none⟩)] 24)).heap.size = w.heap.size + 1 by simp] at this
  exact this
 have hz : ((w.alloc (.cells #[.pointer (some ⟨ab, 0, none⟩)] 24)).alloc (.cells #[.bool false] 4)).heap.size = w.heap.size + 2 := by simp
 generalize World.alloc (World.alloc w _) _ = W0 at hb0 h0 h1 hz ⊢
 have e0 := cell_of_row W0 w.heap.size 0 _ _ (0, 0) h0
 simp at e0
 have hHeld : (fun w' => w'.cell? ⟨w.heap.size, 0, none⟩ = some (.pointer (some ⟨ab, 0, none⟩))) W0.drew := e0
 refine wp_region_two (fun w' => w'.cell? ⟨w.heap.size, 0, none⟩ = some (.pointer (some ⟨ab, 0, none⟩))) 3 (by kernel_rfl) ?_
 refine tk 0 ?_ rfl (by kernel_rfl) (fun _ _ _ h => h) ‹_› (by rfl) ?_ ?_
 rotate_left
 · (intro w' hSw; (try dsimp only at hSw); go_simp; try with_reducible rfl)
 try simp only [Act.put, sA, sB, sC, sD, sE, sF]
 refine tk 1 ?_ rfl (by kernel_rfl) (fun _ _ _ h => h) ‹_› (by rfl) ?_ ?_
 rotate_left
 · (intro w' hSw; (try dsimp only at hSw); go_simp; try with_reducible rfl)
 try simp only [Act.put, sA, sB, sC, sD, sE, sF]
 refine wpAnyT_one (i := 2) rfl (by kernel_rfl) (fun K hK => ?_)
 go_simp
 refine (TR.out _).mono ?_
 rintro e w1 ⟨rfl, rfl⟩
 refine hK.out _ _ (hHeld) (fun hHeld => ?_)
 clear hK K
 try simp only [Act.put, sA, sB, sC, sD, sE, sF]
 refine wpAnyT_tail (by kernel_rfl) ?_
 simp only [List.drop_succ_cons, List.drop_zero]
 go_wp2_with fail
 refine (TW.out _).mono ?_
 rintro e w1 ⟨rfl, rfl⟩
 have hz' : W0.drew.heap.size = w.heap.size + 2 := hz
 rw [hz']
 have hbW : Below W0.heap.size W0 ((W0.drew.alloc (.cells #[.pointer (some ⟨ab, 0, none⟩)] 24)).alloc (.cells #[idV 1] 45)) := (((Below.refl _ _).drew).alloc (Nat.le_refl _) _).alloc (by simp) _
 have k1 : ((W0.drew.alloc (.cells #[.pointer (some ⟨ab, 0, none⟩)] 24)).alloc (.cells #[idV 1] 45)).heap[w.heap.size + 2]? = some (.cells #[.pointer (some ⟨ab, 0, none⟩)] 24 (0, 0)) := by
  have := heap_alloc_new W0.drew (.cells #[.pointer (some ⟨ab, 0, none⟩)] 24)
  rw [hz'] at this
  exact (heap_alloc_old _ _ (by simp [hz'])).trans this
 have k2 : ((W0.drew.alloc (.cells #[.pointer (some ⟨ab, 0, none⟩)] 24)).alloc (.cells #[idV 1] 45)).heap[w.heap.size + 2 + 1]? = some (.cells #[idV 1] 45 (0, 0)) := by
  have := heap_alloc_new (W0.drew.alloc (.cells #[.pointer (some ⟨ab, 0, none⟩)] 24)) (.cells #[idV 1] 45)
  rw [show (W0.drew.alloc (.cells #[.pointer (some ⟨ab, 0, none⟩)] 24)).heap.size = w.heap.size + 2 + 1 by simp [hz']] at this
  exact this
 have hzW : ((W0.drew.alloc (.cells #[.pointer (some ⟨ab, 0, none⟩)] 24)).alloc (.cells #[idV 1] 45)).heap.size = w.heap.size + 4 := by simp [hz']
 generalize World.alloc (World.alloc W0.drew _) _ = W1 at hbW k1 k2 hzW ⊢
 have g0 : W1.heap[w.heap.size]? = some (.cells #[.pointer (some ⟨ab, 0, none⟩)] 24 (0, 0)) := (hbW.block _ (by omega)).trans h0
 have g1 : W1.heap[w.heap.size + 1]? = some (.cells #[.bool false] 4 (0, 0)) := (hbW.block _ (by omega)).trans h1
 have hb1 : Below w.heap.size w W1 := hb0.trans (hbW.mono (by omega))
 obtain ⟨⟨mb, c, hAr⟩, hkb⟩ := HA.out
 have hseq := walk_seq ab mb c M w.heap.size 1 (w.heap.size + 2 + 1) (w.heap.size + 2) F xs W1 (fun W' hf => hAr.below (hb1.trans (hf.below' (by omega))) (Nat.le_refl _)) (cell_of_row W1 (w.heap.size + 2 + 1) 0 _ _ (0, 0) k2) (cell_of_row W1 (w.heap.size + 2) 0 _ _ (0, 0) k1) ⟨by omega, by omega, by omega, by omega⟩ (by decide) hkb hxs hF
 have HB1 := Lib.hid hb1
 have HARW := Lib.hid (show ∀ W', Fr (fun q => w.heap.size ≤ q) W1 W' → ArOk W' ab M from fun W' hf => HA.out.below (hb1.trans (hf.below' (by omega))))
 clear hA hAr hkb k1 k2 hHeld h0 h1 hb0 hbW e0 TW TR hb1
 go_wp2
 gi_wp2
 refine wpIn_walk (gf := 92) rfl (enters_of Tryz.func92 (by kernel_rfl) rfl) hseq (Fr.refl _ _) rfl (fun q h => by rcases h with h | h <;> omega) (by omega)
  (fun S pre A => BoxI ab w.heap.size S A ∧ (pre.map WItem.strip).all (okT M abv) = true) (fun c S _ A => TypX M abv xs ab w.heap.size c S A) (fun S pre x a A => TypR ab w.heap.size S x a A ∧ (pre.map WItem.strip).all (okT M abv) = true) (fun S pre A A' h hf => ⟨h.1.fr hf, h.2⟩) (fun c S pre A A' h hf => ⟨h.1, h.2.1.fr hf, hf.at_ h.2.2.1 (fun k => k ((h.2.1.2.2 _).2 (.inr rfl))), h.2.2.2⟩) ?hI1 (fun S pre A h q hq => (h.1.lt q hq).2) ?hI1l
  (fun q => q = w.heap.size ∨ q = w.heap.size + 1) ⟨⟨g0, ⟨_, g1⟩, fun q => Iff.rfl⟩, rfl⟩ (fun q e => by rcases e with e | e <;> subst e <;> exact ⟨by omega, by omega, by omega⟩) ?assign ?body ?done ?stop
 case hI1 =>
  rintro S pre x a A A' ⟨⟨S0, blk, hi, ha, hb, hx, hS, hn⟩, hp⟩ hf
  exact ⟨⟨S0, blk, hi.fr (hf.imp (fun q _ h h' => h (.inl ((hS q).2 (.inl h'))))), ha, hf.at_ hb (fun h => h (.inl ((hS blk).2 (.inr rfl)))), (hx.fr (Nat.le_refl _) hf (fun q e h => h (.inr e))).more hf.size, hS, hn⟩, hp⟩
 case hI1l =>
  rintro S pre x a A ⟨⟨S0, blk, hi, ha, hb, hx, hS, hn⟩, hp⟩ q hq
  rcases (hS q).1 hq with h | h
  ·
   exact (hi.lt q h).2
  ·
   subst h; exact (Array.getElem?_eq_some_iff.1 hb).1
 case assign =>
  intro l m S pre x A K hi hpre hx hkb hf hK
  gi_wp2
  refine hK (fun q => S q ∨ q = A.heap.size) _ _ ⟨⟨S, A.heap.size, hi.1.fr ((Fr.refl _ _).alloc _), ?_, heap_alloc_new A _, Sl.alloc hx (Nat.le_refl _) _ |>.more (by simp), fun q => Iff.rfl, fun h => by have := (hi.1.lt _ h).2; omega⟩, hi.2⟩ ((Fr.refl _ _).alloc _) (fun q h => h.imp (fun h => h) (fun h => by omega))
  exact ⟨_, _, _, _, _, _, _, _, _, _, _, _, _, _, _, _, _, _, _, _, _, _, _, _, _, _, _, _, _, _, _, _, _, _, _, _, _, _, _, _, _, _, rfl⟩
 case body =>
  rintro l m S pre x a1 A ⟨⟨S0, blk, ⟨hbx, ⟨r0, hbr⟩, hSv⟩, ha, hb, hx, hS, hn⟩, hpo⟩ hpre hf
  obtain ⟨u0, u5, u6, u7, u8, u9, u10, u11, u12, u13, u14, u15, u16, u17, u18, u19, u20, u21, u22, u23, u24, u25, u26, u27, u28, u29, u30, u31, u32, u33, u34, u35, u36, u37, u38, u39, u40, u41, u42, u43, u44, u45, rfl⟩ := ha
  have hxm : x.strip ∈ xs := hpre.subset (by simp)
  have hf2 : Fr (fun q => w.heap.size ≤ q) W1 A := hf.imp (fun q _ e => by rcases e with (e | e) | e | e <;> omega)
  have HAA := Lib.hid (HARW.out A hf2)
  obtain ⟨xi, nd, ka, kc⟩ := x
  have hxm : (xi, nd) ∈ xs := hxm
  have hMx := HMM.out _ hxm
  have hkt := HA.out.2 xi nd hMx
  have hnl := HA.out.len xi
  unfold ndAt at hnl
  rw [hMx] at hnl
  have hnl : nd.kids.length ≤ 1000000 := hnl
  have TWn := Lib.hid (wants_any ab M abv HV.out xi nd ka kc A HAA.out (HALL.out.1 _ hxm) hx (HRB.out xi nd hMx) (fun h => ⟨HALL.out.2.1 _ hxm h, by
   have h0 := HALL.out.2.1 _ hxm h
   have : nd.kids.getD 0 0 ∈ nd.kids := by
    rw [show nd.kids.getD 0 0 = nd.kids[0] from by simp [List.getD, h0]]
    exact List.getElem_mem _
   exact hkt _ this, HRB.out.at _⟩))
  have hidx := HALL.out.2.2 _ hxm
  have hiff := Hg.okT_iff M abv (xi, nd)
  dsimp only at hidx hiff
  have HX := Lib.hid (show Sl A A.heap.size (.slice ka nd.kids.length kc) nd.kids.length (nd.kids.map idV) from hx)
  have HBK := Lib.hid (show A.heap[blk]? = some (.cells (ndCells nd ka kc) 70 (0, 0)) from hb)
  have HBX := Lib.hid (And.intro hbx hbr)
  have HSS := Lib.hid (And.intro hSv hS)
  have HNO := Lib.hid (show okT M abv (xi, nd) = false → xs.all (okT M abv) = false from fun h => by
   rw [List.all_eq_false]
   exact ⟨_, hxm, by rw [h]; simp⟩)
  have HYES := Lib.hid (show okT M abv (xi, nd) = true → ((pre ++ [(⟨xi, nd, ka, kc⟩ : WItem)]).map WItem.strip).all (okT M abv) = true from fun h => by
   rw [List.map_append, List.all_append, hpo]
   simp [WItem.strip, h])
  have HKT := Lib.hid hkt
  have hwl : (wantsK M abv xi nd).length ≤ 1000000 := by
   have h4 := HAA.out.lenK nd.ref 4
   unfold wantsK pairK
   repeat' split
   all_goals simp
   exact h4
  generalize wantsK M abv xi nd = ws at TWn hidx hiff hwl
  have e0 := cell_of_row A blk 0 _ _ (0, 0) hb
  have eB := cell_of_row A w.heap.size 0 _ _ (0, 0) hbx
  have b1 := cell_of_row A blk 1 _ _ (0, 0) hb
  have b2 := cell_of_row A blk 2 _ _ (0, 0) hb
  have b3 := cell_of_row A blk 3 _ _ (0, 0) hb
  have b4 := cell_of_row A blk 4 _ _ (0, 0) hb
  have b5 := cell_of_row A blk 5 _ _ (0, 0) hb
  have hbl := (Array.getElem?_eq_some_iff.1 hb).1
  have hBl := (Array.getElem?_eq_some_iff.1 hbx).1
  have hRl := (Array.getElem?_eq_some_iff.1 hbr).1
  simp at e0 eB b1 b2 b3 b4 b5
  have HIF := Lib.hid hiff
  have HID := Lib.hid hidx
  have HRET := Lib.hid (show okT M abv (xi, nd) = false → ∀ W : World, Fr (fun _ => False) A W → ∃ S', TypX M abv xs ab w.heap.size .ret S' (W.setCell ⟨w.heap.size + 1, 0, none⟩ (.bool false)) ∧ Fr S A (W.setCell ⟨w.heap.size + 1, 0, none⟩ (.bool false)) ∧ ∀ q, S' q → S q ∨ A.heap.size ≤ q from fun hno W hf => by
   have h1 : W.heap[w.heap.size]? = some (.cells #[.pointer (some ⟨ab, 0, none⟩)] 24 (0, 0)) := hf.at_ hbx (fun h => h)
   have h2 : W.heap[w.heap.size + 1]? = some (.cells #[r0] 4 (0, 0)) := hf.at_ hbr (fun h => h)
   have h3 : (W.setCell ⟨w.heap.size + 1, 0, none⟩ (.bool false)).heap[w.heap.size + 1]? = some (.cells #[.bool false] 4 (0, 0)) := heap_setCell_same h2 _
   exact ⟨S0, ⟨rfl, ⟨(Below.heap_setCell W ⟨w.heap.size + 1, 0, none⟩ (.bool false) w.heap.size (by show ¬ w.heap.size = w.heap.size + 1; omega)).trans h1, ⟨_, h3⟩, hSv⟩, h3, HNO.out hno⟩, (hf.imp (fun q _ e => e.elim)).set (p := ⟨w.heap.size + 1, 0, none⟩) (.inl ((hS _).2 (.inl ((hSv _).2 (.inr rfl))))) _, fun q h => .inl ((hS q).2 (.inl h))⟩)
  have HGO := Lib.hid (show okT M abv (xi, nd) = true → ∀ W : World, Fr (fun _ => False) A W → ∃ S', (BoxI ab w.heap.size S' W ∧ ((pre ++ [(⟨xi, nd, ka, kc⟩ : WItem)]).map WItem.strip).all (okT M abv) = true) ∧ Fr S A W ∧ ∀ q, S' q → S q ∨ A.heap.size ≤ q from fun hyes W hf =>
   ⟨S0, ⟨⟨hf.at_ hbx (fun h => h), ⟨r0, hf.at_ hbr (fun h => h)⟩, hSv⟩, HYES.out hyes⟩, hf.imp (fun q _ e => e.elim), fun q h => .inl ((hS q).2 (.inl h))⟩)
  clear hx hbx hbr hSv hS hn hb hpo hpre hf hf2 hxm hMx hkt hiff hidx
  gi_wp2_with fail
  refine ⟨trivial, fun h => (by cases h), (CallsIn.inRound l (callsIn_wide.2 TWn.out)).mono ?_⟩
  rintro e W5 ⟨⟨v, rfl, ho5⟩, hb5⟩
  obtain ⟨a5, c5, rfl⟩ := (Sl.of_own ho5).form
  have HO5 := Lib.hid (Sl.of_own ho5)
  have HB5 := Lib.hid hb5
  have w0 : W5.heap[blk]? = some (.cells (ndCells nd ka kc) 70 (0, 0)) := (hb5.block blk hbl).trans HBK.out
  have d0 := cell_of_row W5 blk 0 _ _ (0, 0) w0
  have d5 := cell_of_row W5 blk 5 _ _ (0, 0) w0
  have wr5 : W5.heap[w.heap.size + 1]? = some (.cells #[r0] 4 (0, 0)) := (hb5.block _ hRl).trans HBX.out.2
  have dr := cell_of_row W5 (w.heap.size + 1) 0 _ _ (0, 0) wr5
  have fr5 : W5.frozen? ⟨w.heap.size + 1, 0, none⟩ = false := by simp [World.frozen?, wr5]
  simp at d0 d5 dr
  have hl5 : blk < W5.heap.size := Nat.lt_of_lt_of_le hbl hb5.size
  have hR5 : w.heap.size + 1 < W5.heap.size := Nat.lt_of_lt_of_le hRl hb5.size
  have HF5 := Lib.hid (Fr.of_below (D := fun _ => False) hb5)
  clear TWn ho5 hb5 w0 wr5 e0 eB b1 b2 b3 b4 b5
  by_cases hbad : nd.kind = 19 ∧ ws.length ≠ nd.kids.length
  ·
   have hk : ((nd.kind : Int) == 19) = true := by simp [hbad.1]
   have hno : okT M abv (xi, nd) = false := by
    rw [← Bool.not_eq_true]
    intro h
    exact hbad.2 ((HIF.out.1 h).1 hbad.1)
   have hlq : ((ws.length : Int) != (nd.kids.length : Int)) = true := by simp; omega
   have hlq2 : ¬ ws.length = nd.kids.length := hbad.2
   have HFIN := Lib.hid (HRET.out hno W5 HF5.out)
   clear hbad hno
   gi_wp2
   exact HFIN.out
  have hle : ws.length ≤ nd.kids.length := by
   by_cases h19 : nd.kind = 19
   ·
    have : ws.length = nd.kids.length := by
     rcases Nat.lt_trichotomy ws.length nd.kids.length with h | h | h
     ·
      exact absurd ⟨h19, by omega⟩ hbad
     ·
      exact h
     ·
      exact absurd ⟨h19, by omega⟩ hbad
    omega
   ·
    exact HID.out h19
  have hrest : (nd.kind = 19 → ws.length = nd.kids.length) := fun h => by
   rcases Nat.lt_trichotomy ws.length nd.kids.length with h' | h' | h'
   ·
    exact absurd ⟨h, by omega⟩ hbad
   ·
    exact h'
   ·
    exact absurd ⟨h, by omega⟩ hbad
  have HREST := Lib.hid hrest
  have hq19 : ((nd.kind : Int) == 19) = false ∨ (((nd.kind : Int) == 19) = true ∧ ((ws.length : Int) != (nd.kids.length : Int)) = false ∧ ws.length = nd.kids.length) := by
   by_cases h : nd.kind = 19
   ·
    exact .inr ⟨by simp [h], by simp [hrest h], hrest h⟩
   ·
    exact .inl (by simp; omega)
  clear hbad hrest
  rcases hq19 with hq19 | ⟨hq19, hlq, hlq2⟩
  ·
   skip
   gi_wp2
   gi_loopw [31] (fun p wr => ∃ i : Nat, p = .int .i64 (i : Int) ∧ i ≤ ws.length ∧ Below W5.heap.size W5 wr ∧ ∀ k t, k < i → ws[k]? = some t → typeK M (nd.kids.getD k 0) = t) (fun p wr => ws.length - (intOf p).toNat)
   case atStart => exact ⟨0, rfl, Nat.zero_le _, Below.refl _ _, fun k t hk => by omega⟩
   case round =>
    obtain ⟨i, rfl, hi, hbr, hok⟩ := hrel
    have HOK := Lib.hid hok
    have HBR := Lib.hid hbr
    by_cases hlt : i < ws.length
    ·
     obtain ⟨b, o, rfl, _, kcw⟩ := (show Sl wr wr.heap.size (.slice a5 ws.length c5) ws.length (ws.map u8V) from (HO5.out.below hbr (Nat.le_refl _)).more hbr.size).mapAt hlt
     have hki : i < nd.kids.length := by omega
     obtain ⟨gk, ok, rfl, hgl, kck⟩ := HX.out.mapAt hki
     have hkm : nd.kids[i] ∈ nd.kids := List.getElem_mem hki
     have hkl := HKT.out _ hkm
     have hgd : nd.kids.getD i 0 = nd.kids[i] := by simp [List.getD, hki]
     have hws : ws[i]? = some ws[i] := List.getElem?_eq_getElem hlt
     have hAk : ArOk wr.drew ab M := HAA.out.below ((HB5.out.trans (hbr.mono HB5.out.size)).drew)
     have hrk := HRB.out.at nd.kids[i]
     generalize nd.kids[i] = kid at kck hkl hgd hrk
     generalize ws[i] = tw at kcw hws
     have TT := Lib.hid (type_any ab M kid wr.drew hAk hkl hrk)
     have hBr : w.heap.size < wr.heap.size := by have := hbr.size; omega
     have hbr5 : blk < wr.heap.size := by have := hbr.size; omega
     have hgr : gk < wr.heap.size := by have := hbr.size; have := HB5.out.size; omega
     have hbA : Below A.heap.size A wr := HB5.out.trans (hbr.mono HB5.out.size)
     have q0 : wr.cell? ⟨w.heap.size, 0, none⟩ = some (.pointer (some ⟨ab, 0, none⟩)) := by
      have := cell_of_row A w.heap.size 0 _ _ (0, 0) HBX.out.1
      rw [hbA.cell (p := ⟨w.heap.size, 0, none⟩) hBl]
      simpa using this
     have q5 : wr.cell? ⟨blk, 5, none⟩ = some (.slice (some ⟨gk, ok, none⟩) nd.kids.length kc) := by
      have := cell_of_row A blk 5 _ _ (0, 0) HBK.out
      rw [hbA.cell (p := ⟨blk, 5, none⟩) hbl]
      simpa using this
     have qk : wr.cell? ⟨gk, ok + i, none⟩ = some (idV kid) := (hbA.cell (p := ⟨gk, ok + i, none⟩) hgl).trans kck
     have wr6 : wr.heap[w.heap.size + 1]? = some (.cells #[r0] 4 (0, 0)) := (hbA.block _ hRl).trans HBX.out.2
     have HWR := Lib.hid wr6
     have HGD := Lib.hid hgd
     have HWS := Lib.hid hws
     have hHeld : (fun w' => w'.cell? ⟨w.heap.size, 0, none⟩ = some (.pointer (some ⟨ab, 0, none⟩)) ∧ w'.cell? ⟨blk, 5, none⟩ = some (.slice (some ⟨gk, ok, none⟩) nd.kids.length kc) ∧ w'.cell? ⟨gk, ok + i, none⟩ = some (idV kid)) wr.drew := ⟨q0, q5, qk⟩
     clear hok hbr hAk hkm hbA hgd hws wr6 q0 q5 qk
     gi_wp2
     refine wpIn_region_two (fun w' => w'.cell? ⟨w.heap.size, 0, none⟩ = some (.pointer (some ⟨ab, 0, none⟩)) ∧ w'.cell? ⟨blk, 5, none⟩ = some (.slice (some ⟨gk, ok, none⟩) nd.kids.length kc) ∧ w'.cell? ⟨gk, ok + i, none⟩ = some (idV kid)) 8 (by kernel_rfl) (by kernel_rfl) (by rintro ⟨_, _, h⟩; exact h) ?_
     refine tk 0 ?_ rfl (by kernel_rfl) (fun _ _ _ h => h) ‹_› (by rfl) ?_ ?_
     rotate_left
     · (intro w' hSw; (try dsimp only at hSw); go_simp; try with_reducible rfl)
     try simp only [Act.put, sA, sB, sC, sD, sE, sF]
     refine tk 1 ?_ rfl (by kernel_rfl) (fun _ _ _ h => h) ‹_› (by rfl) ?_ ?_
     rotate_left
     · (intro w' hSw; (try dsimp only at hSw); go_simp; try with_reducible rfl)
     try simp only [Act.put, sA, sB, sC, sD, sE, sF]
     refine tk 2 ?_ rfl (by kernel_rfl) (fun _ _ _ h => h) ‹_› (by rfl) ?_ ?_
     rotate_left
     · (intro w' hSw; (try dsimp only at hSw); go_simp; try with_reducible rfl)
     try simp only [Act.put, sA, sB, sC, sD, sE, sF]
     refine tk 3 ?_ rfl (by kernel_rfl) (fun _ _ _ h => h) ‹_› (by rfl) ?_ ?_
     rotate_left
     · (intro w' hSw; (try dsimp only at hSw); go_simp; try with_reducible rfl)
     try simp only [Act.put, sA, sB, sC, sD, sE, sF]
     refine tk 4 ?_ rfl (by kernel_rfl) (fun _ _ _ h => h) ‹_› (by rfl) ?_ ?_
     rotate_left
     · (intro w' hSw; (try dsimp only at hSw); go_simp; try with_reducible rfl)
     try simp only [Act.put, sA, sB, sC, sD, sE, sF]
     refine tk 5 ?_ rfl (by kernel_rfl) (fun _ _ _ h => h) ‹_› (by rfl) ?_ ?_
     rotate_left
     · (intro w' hSw; (try dsimp only at hSw); go_simp; try with_reducible rfl)
     try simp only [Act.put, sA, sB, sC, sD, sE, sF]
     refine tk 7 ?_ rfl (by kernel_rfl) (fun _ _ _ h => h) ‹_› (by rfl) ?_ ?_
     rotate_left
     · (intro w' hSw; (try dsimp only at hSw); go_simp; try with_reducible rfl)
     try simp only [Act.put, sA, sB, sC, sD, sE, sF]
     refine wpAnyT_one (i := 6) rfl (by kernel_rfl) (fun K hK => ?_)
     go_simp
     refine TT.out.mono ?_
     rintro e W6 ⟨rfl, hb6⟩
     have HB6 := Lib.hid hb6
     clear TT
     refine hK.out _ _ (⟨(hb6.cell (p := ⟨w.heap.size, 0, none⟩) hBr).trans hHeld.1, (hb6.cell (p := ⟨blk, 5, none⟩) hbr5).trans hHeld.2.1, (hb6.cell (p := ⟨gk, ok + i, none⟩) hgr).trans hHeld.2.2⟩) (fun hHeld => ?_)
     clear hK K
     try simp only [Act.put, sA, sB, sC, sD, sE, sF]
     refine wpAnyT_tail (by kernel_rfl) ?_
     simp only [List.drop_succ_cons, List.drop_zero]
     have wr7 : W6.heap[w.heap.size + 1]? = some (.cells #[r0] 4 (0, 0)) := (HB6.out.block _ (show w.heap.size + 1 < wr.heap.size from (Array.getElem?_eq_some_iff.1 HWR.out).1)).trans HWR.out
     have dr7 := cell_of_row W6 (w.heap.size + 1) 0 _ _ (0, 0) wr7
     have fr7 : W6.frozen? ⟨w.heap.size + 1, 0, none⟩ = false := by simp [World.frozen?, wr7]
     simp at dr7
     have hl7 := (Array.getElem?_eq_some_iff.1 wr7).1
     have HBR6 := Lib.hid (show Below W5.heap.size W5 W6 from HBR.out.trans (Below.mono (show Below wr.heap.size wr W6 from ⟨HB6.out.os, HB6.out.tape, HB6.out.output, HB6.out.size, HB6.out.block⟩) HBR.out.size))
     clear wr7
     by_cases heq : typeK M kid = tw
     ·
      have hqe : ((typeK M kid : Int) != (tw : Int)) = false := by simp [heq]
      have HOK2 := Lib.hid (show ∀ k t, k < i + 1 → ws[k]? = some t → typeK M (nd.kids.getD k 0) = t from fun k t hk ht => by
       by_cases e : k = i
       ·
        subst e
        rw [HGD.out, heq]
        rw [HWS.out] at ht
        injection ht
       ·
        exact HOK.out k t (by omega) ht)
      clear hHeld dr7 fr7
      go_wp2
      gi_wp2
      go_roundw
      case rel => exact ⟨i + 1, by go_num, by omega, HBR6.out, HOK2.out⟩
      case measure => simp [intOf]; omega
     ·
      have hqe : ((typeK M kid : Int) != (tw : Int)) = true := by simp; omega
      have hno : okT M abv (xi, nd) = false := by
       rw [← Bool.not_eq_true]
       intro h
       exact heq (by rw [← HGD.out]; exact (HIF.out.1 h).2 i tw HWS.out)
      have HFIN := Lib.hid (HRET.out hno W6 (HF5.out.trans (Fr.of_below HBR6.out)))
      clear hno hHeld heq
      go_wp2
      gi_wp2
      exact HFIN.out
    ·
     obtain rfl : i = ws.length := by omega
     have hyes : okT M abv (xi, nd) = true := HIF.out.2 ⟨HREST.out, fun k t hk => HOK.out k t (List.getElem?_eq_some_iff.1 hk).1 hk⟩
     have HFIN := Lib.hid (HGO.out hyes wr (HF5.out.trans (Fr.of_below hbr)))
     clear hyes hok hbr
     gi_wp2
     exact HFIN.out
  ·
   skip
   gi_wp2
   gi_loopw [31] (fun p wr => ∃ i : Nat, p = .int .i64 (i : Int) ∧ i ≤ ws.length ∧ Below W5.heap.size W5 wr ∧ ∀ k t, k < i → ws[k]? = some t → typeK M (nd.kids.getD k 0) = t) (fun p wr => ws.length - (intOf p).toNat)
   case atStart => exact ⟨0, rfl, Nat.zero_le _, Below.refl _ _, fun k t hk => by omega⟩
   case round =>
    obtain ⟨i, rfl, hi, hbr, hok⟩ := hrel
    have HOK := Lib.hid hok
    have HBR := Lib.hid hbr
    by_cases hlt : i < ws.length
    ·
     obtain ⟨b, o, rfl, _, kcw⟩ := (show Sl wr wr.heap.size (.slice a5 ws.length c5) ws.length (ws.map u8V) from (HO5.out.below hbr (Nat.le_refl _)).more hbr.size).mapAt hlt
     have hki : i < nd.kids.length := by omega
     obtain ⟨gk, ok, rfl, hgl, kck⟩ := HX.out.mapAt hki
     have hkm : nd.kids[i] ∈ nd.kids := List.getElem_mem hki
     have hkl := HKT.out _ hkm
     have hgd : nd.kids.getD i 0 = nd.kids[i] := by simp [List.getD, hki]
     have hws : ws[i]? = some ws[i] := List.getElem?_eq_getElem hlt
     have hAk : ArOk wr.drew ab M := HAA.out.below ((HB5.out.trans (hbr.mono HB5.out.size)).drew)
     have hrk := HRB.out.at nd.kids[i]
     generalize nd.kids[i] = kid at kck hkl hgd hrk
     generalize ws[i] = tw at kcw hws
     have TT := Lib.hid (type_any ab M kid wr.drew hAk hkl hrk)
     have hBr : w.heap.size < wr.heap.size := by have := hbr.size; omega
     have hbr5 : blk < wr.heap.size := by have := hbr.size; omega
     have hgr : gk < wr.heap.size := by have := hbr.size; have := HB5.out.size; omega
     have hbA : Below A.heap.size A wr := HB5.out.trans (hbr.mono HB5.out.size)
     have q0 : wr.cell? ⟨w.heap.size, 0, none⟩ = some (.pointer (some ⟨ab, 0, none⟩)) := by
      have := cell_of_row A w.heap.size 0 _ _ (0, 0) HBX.out.1
      rw [hbA.cell (p := ⟨w.heap.size, 0, none⟩) hBl]
      simpa using this
     have q5 : wr.cell? ⟨blk, 5, none⟩ = some (.slice (some ⟨gk, ok, none⟩) nd.kids.length kc) := by
      have := cell_of_row A blk 5 _ _ (0, 0) HBK.out
      rw [hbA.cell (p := ⟨blk, 5, none⟩) hbl]
      simpa using this
     have qk : wr.cell? ⟨gk, ok + i, none⟩ = some (idV kid) := (hbA.cell (p := ⟨gk, ok + i, none⟩) hgl).trans kck
     have wr6 : wr.heap[w.heap.size + 1]? = some (.cells #[r0] 4 (0, 0)) := (hbA.block _ hRl).trans HBX.out.2
     have HWR := Lib.hid wr6
     have HGD := Lib.hid hgd
     have HWS := Lib.hid hws
     have hHeld : (fun w' => w'.cell? ⟨w.heap.size, 0, none⟩ = some (.pointer (some ⟨ab, 0, none⟩)) ∧ w'.cell? ⟨blk, 5, none⟩ = some (.slice (some ⟨gk, ok, none⟩) nd.kids.length kc) ∧ w'.cell? ⟨gk, ok + i, none⟩ = some (idV kid)) wr.drew := ⟨q0, q5, qk⟩
     clear hok hbr hAk hkm hbA hgd hws wr6 q0 q5 qk
     gi_wp2
     refine wpIn_region_two (fun w' => w'.cell? ⟨w.heap.size, 0, none⟩ = some (.pointer (some ⟨ab, 0, none⟩)) ∧ w'.cell? ⟨blk, 5, none⟩ = some (.slice (some ⟨gk, ok, none⟩) nd.kids.length kc) ∧ w'.cell? ⟨gk, ok + i, none⟩ = some (idV kid)) 8 (by kernel_rfl) (by kernel_rfl) (by rintro ⟨_, _, h⟩; exact h) ?_
     refine tk 0 ?_ rfl (by kernel_rfl) (fun _ _ _ h => h) ‹_› (by rfl) ?_ ?_
     rotate_left
     · (intro w' hSw; (try dsimp only at hSw); go_simp; try with_reducible rfl)
     try simp only [Act.put, sA, sB, sC, sD, sE, sF]
     refine tk 1 ?_ rfl (by kernel_rfl) (fun _ _ _ h => h) ‹_› (by rfl) ?_ ?_
     rotate_left
     · (intro w' hSw; (try dsimp only at hSw); go_simp; try with_reducible rfl)
     try simp only [Act.put, sA, sB, sC, sD, sE, sF]
     refine tk 2 ?_ rfl (by kernel_rfl) (fun _ _ _ h => h) ‹_› (by rfl) ?_ ?_
     rotate_left
     · (intro w' hSw; (try dsimp only at hSw); go_simp; try with_reducible rfl)
     try simp only [Act.put, sA, sB, sC, sD, sE, sF]
     refine tk 3 ?_ rfl (by kernel_rfl) (fun _ _ _ h => h) ‹_› (by rfl) ?_ ?_
     rotate_left
     · (intro w' hSw; (try dsimp only at hSw); go_simp; try with_reducible rfl)
     try simp only [Act.put, sA, sB, sC, sD, sE, sF]
     refine tk 4 ?_ rfl (by kernel_rfl) (fun _ _ _ h => h) ‹_› (by rfl) ?_ ?_
     rotate_left
     · (intro w' hSw; (try dsimp only at hSw); go_simp; try with_reducible rfl)
     try simp only [Act.put, sA, sB, sC, sD, sE, sF]
     refine tk 5 ?_ rfl (by kernel_rfl) (fun _ _ _ h => h) ‹_› (by rfl) ?_ ?_
     rotate_left
     · (intro w' hSw; (try dsimp only at hSw); go_simp; try with_reducible rfl)
     try simp only [Act.put, sA, sB, sC, sD, sE, sF]
     refine tk 7 ?_ rfl (by kernel_rfl) (fun _ _ _ h => h) ‹_› (by rfl) ?_ ?_
     rotate_left
     · (intro w' hSw; (try dsimp only at hSw); go_simp; try with_reducible rfl)
     try simp only [Act.put, sA, sB, sC, sD, sE, sF]
     refine wpAnyT_one (i := 6) rfl (by kernel_rfl) (fun K hK => ?_)
     go_simp
     refine TT.out.mono ?_
     rintro e W6 ⟨rfl, hb6⟩
     have HB6 := Lib.hid hb6
     clear TT
     refine hK.out _ _ (⟨(hb6.cell (p := ⟨w.heap.size, 0, none⟩) hBr).trans hHeld.1, (hb6.cell (p := ⟨blk, 5, none⟩) hbr5).trans hHeld.2.1, (hb6.cell (p := ⟨gk, ok + i, none⟩) hgr).trans hHeld.2.2⟩) (fun hHeld => ?_)
     clear hK K
     try simp only [Act.put, sA, sB, sC, sD, sE, sF]
     refine wpAnyT_tail (by kernel_rfl) ?_
     simp only [List.drop_succ_cons, List.drop_zero]
     have wr7 : W6.heap[w.heap.size + 1]? = some (.cells #[r0] 4 (0, 0)) := (HB6.out.block _ (show w.heap.size + 1 < wr.heap.size from (Array.getElem?_eq_some_iff.1 HWR.out).1)).trans HWR.out
     have dr7 := cell_of_row W6 (w.heap.size + 1) 0 _ _ (0, 0) wr7
     have fr7 : W6.frozen? ⟨w.heap.size + 1, 0, none⟩ = false := by simp [World.frozen?, wr7]
     simp at dr7
     have hl7 := (Array.getElem?_eq_some_iff.1 wr7).1
     have HBR6 := Lib.hid (show Below W5.heap.size W5 W6 from HBR.out.trans (Below.mono (show Below wr.heap.size wr W6 from ⟨HB6.out.os, HB6.out.tape, HB6.out.output, HB6.out.size, HB6.out.block⟩) HBR.out.size))
     clear wr7
     by_cases heq : typeK M kid = tw
     ·
      have hqe : ((typeK M kid : Int) != (tw : Int)) = false := by simp [heq]
      have HOK2 := Lib.hid (show ∀ k t, k < i + 1 → ws[k]? = some t → typeK M (nd.kids.getD k 0) = t from fun k t hk ht => by
       by_cases e : k = i
       ·
        subst e
        rw [HGD.out, heq]
        rw [HWS.out] at ht
        injection ht
       ·
        exact HOK.out k t (by omega) ht)
      clear hHeld dr7 fr7
      go_wp2
      gi_wp2
      go_roundw
      case rel => exact ⟨i + 1, by go_num, by omega, HBR6.out, HOK2.out⟩
      case measure => simp [intOf]; omega
     ·
      have hqe : ((typeK M kid : Int) != (tw : Int)) = true := by simp; omega
      have hno : okT M abv (xi, nd) = false := by
       rw [← Bool.not_eq_true]
       intro h
       exact heq (by rw [← HGD.out]; exact (HIF.out.1 h).2 i tw HWS.out)
      have HFIN := Lib.hid (HRET.out hno W6 (HF5.out.trans (Fr.of_below HBR6.out)))
      clear hno hHeld heq
      go_wp2
      gi_wp2
      exact HFIN.out
    ·
     obtain rfl : i = ws.length := by omega
     have hyes : okT M abv (xi, nd) = true := HIF.out.2 ⟨HREST.out, fun k t hk => HOK.out k t (List.getElem?_eq_some_iff.1 hk).1 hk⟩
     have HFIN := Lib.hid (HGO.out hyes wr (HF5.out.trans (Fr.of_below hbr)))
     clear hyes hok hbr
     gi_wp2
     exact HFIN.out
 case done =>
  rintro S ys W hys ⟨⟨hbx, ⟨r0, hbr⟩, hSv⟩, hall⟩ hK hnS hf
  rw [hys] at hall
  have fB : W.frozen? ⟨w.heap.size + 1, 0, none⟩ = false := by simp [World.frozen?, hbr]
  have eB := cell_of_row W (w.heap.size + 1) 0 _ _ (0, 0) hbr
  simp at eB
  have hl2 := (Array.getElem?_eq_some_iff.1 hbr).1
  have hne : ¬ w.heap.size + 1 = W1.heap.size := by omega
  have hK2 : (W.setCell ⟨w.heap.size + 1, 0, none⟩ (.bool true)).heap[W1.heap.size]? = some (.deferred (some [])) := (Below.heap_setCell W ⟨w.heap.size + 1, 0, none⟩ (.bool true) W1.heap.size (fun e => hne e.symm)).trans hK
  have hfs := hf.set (p := ⟨w.heap.size + 1, 0, none⟩) (.inl (.inl (.inr rfl))) (.bool true)
  have hbs : (W.setCell ⟨w.heap.size + 1, 0, none⟩ (.bool true)).heap[w.heap.size + 1]? = some (.cells #[.bool true] 4 (0, 0)) := heap_setCell_same hbr _
  have hpf := putObj_fr (W.setCell ⟨w.heap.size + 1, 0, none⟩ (.bool true)) W1.heap.size (.deferred none)
  have hcell : ((W.setCell ⟨w.heap.size + 1, 0, none⟩ (.bool true)).putObj W1.heap.size (.deferred none)).cell? ⟨w.heap.size + 1, 0, none⟩ = some (.bool true) := by
   have := cell_of_row _ (w.heap.size + 1) 0 _ _ (0, 0) (hpf.at_ hbs hne)
   simpa using this
  have HFIN := Lib.hid (show Below w.heap.size w ((W.setCell ⟨w.heap.size + 1, 0, none⟩ (.bool true)).putObj W1.heap.size (.deferred none)) from by
   have h1 := HB1.out.trans ((hfs.imp (D' := fun q => w.heap.size ≤ q) (fun q _ e => by rcases e with (e | e) | e | e <;> omega)).below' (by omega))
   exact h1.trans ((hpf.imp (D' := fun q => w.heap.size ≤ q) (fun q _ e => by omega)).below' h1.size))
  clear hbx hbr hSv hf hfs hbs hpf
  gi_wp2
  refine ⟨by simp, .inl ⟨_, _, rfl, run_takeDeferred hK2, ?_⟩⟩
  refine ⟨.bool true, ?_, by rw [hall], HFIN.out⟩
  simp [results, Tryz.results28, go_sem, hcell]
 case stop =>
  rintro c S pre W hpre ⟨rfl, ⟨hbx, -, hSv⟩, hbr, hall⟩ hK hnS hf
  have hne : ¬ w.heap.size + 1 = W1.heap.size := by omega
  have hpf := putObj_fr W W1.heap.size (.deferred none)
  have hcell : (W.putObj W1.heap.size (.deferred none)).cell? ⟨w.heap.size + 1, 0, none⟩ = some (.bool false) := by
   have := cell_of_row _ (w.heap.size + 1) 0 _ _ (0, 0) (hpf.at_ hbr hne)
   simpa using this
  have HFIN := Lib.hid (show Below w.heap.size w (W.putObj W1.heap.size (.deferred none)) from by
   have h1 := HB1.out.trans ((hf.imp (D' := fun q => w.heap.size ≤ q) (fun q _ e => by rcases e with (e | e) | e | e <;> omega)).below' (by omega))
   exact h1.trans ((hpf.imp (D' := fun q => w.heap.size ≤ q) (fun q _ e => by omega)).below' h1.size))
  clear hbx hbr hSv hf hpf
  gi_wp2
  refine ⟨by simp, .inl ⟨_, _, rfl, run_takeDeferred hK, ?_⟩⟩
  refine ⟨.bool false, ?_, by rw [hall], HFIN.out⟩
  simp [results, Tryz.results28, go_sem, hcell]
end Go.Proofs.YtoelmnamlnbdhaaGreatDoor
namespace Hg
def NoClash (M : Nat → Option Node) : Prop := ((modsK M).map (nameK M)).Nodup ∧ (∀ m ∈ modsK M, ((funcsK M m).map (nameK M)).Nodup) ∧ ∀ m ∈ modsK M, ∀ f ∈ funcsK M m, ∃ F xs, wk M F [f] [] = some xs ∧ F ≤ 1000000 ∧ (namesW xs).Nodup
end Hg
namespace Go.Proofs.YtoelmnamlnbdhaaGreatDoor
open Go.RowKit
open Hg (GT gl wk isK ndAt kidsK modsK funcsK KB nameK typeK namesW NoClash)
theorem twice_below (B : Nat) (v : Value) (l : List (List UInt8)) (w : World) (hn : l.Nodup) (hl : l.length ≤ 1000000) (ho : w.ownsRow B 9 1 v l.length (l.map strV)) (hB : B ≤ w.heap.size) :
 Calls Tryz.prog 61 #[v] w fun e w' => e = .returned (.bool false) ∧ Below B w w' :=
 (twice_any B v l w hn hl ho).mono fun _ _ h => ⟨h.1, (h.2.imp (fun q _ e => (ho.lt q e).1)).below' hB⟩
set_option maxHeartbeats 4000000 in
set_option maxRecDepth 100000 in
theorem clash_any (ab : Nat) (M : Nat → Option Hg.Node) (w : World) (hA : ArOk w ab M) (hN : NoClash M) :
 Calls Tryz.prog 26 #[.pointer (some ⟨ab, 0, none⟩)] w fun e w' => e = .returned (.bool false) ∧ Below w.heap.size w w' := by
 have T1 := Lib.hid (fun W (h : ArOk W ab M) => modules_any ab M W h)
 have HA := Lib.hid hA
 have HN := Lib.hid hN
 have hml := hA.lenK 1 2
 have hmm := hA.2.kids 1 2
 have HMM := Lib.hid hmm
 have TT := Lib.hid twice_below
 change (modsK M).length ≤ 1000000 at hml
 clear hA hN hmm
 go_enter Tryz.func26, Tryz.ntmps26
 go_wp2_with fail
 refine (T1.out w HA.out).mono ?_
 rintro e w1 ⟨⟨v, rfl, ho1⟩, hb1⟩
 have TN := Lib.hid (names_any ab M v (modsK M) w1 (HA.out.below hb1) (Sl.of_own ho1) HMM.out hml)
 have HB1 := Lib.hid hb1
 clear hb1 ho1
 go_wp2_with fail
 refine TN.out.mono ?_
 rintro e w2 ⟨⟨v2, rfl, ho2⟩, hb2⟩
 have TW := Lib.hid (TT.out w1.heap.size v2 _ w2 HN.out.1 (by rw [List.length_map]; exact hml) (by rw [List.length_map]; simpa using ho2) hb2.size)
 have HB2 := Lib.hid (HB1.out.trans (hb2.mono HB1.out.size))
 have hs2 := HB1.out.size
 clear hb2 ho2 TN
 go_wp2_with fail
 refine TW.out.mono ?_
 rintro e w3 ⟨rfl, hb3⟩
 have HB3 := Lib.hid (HB2.out.trans (hb3.mono hs2))
 have hs3 := HB3.out.size
 have T2 := Lib.hid (T1.out w3 (HA.out.below HB3.out))
 clear TW hb3
 go_wp2_with fail
 refine T2.out.mono ?_
 rintro e w4 ⟨⟨vm, rfl, ho4⟩, hb4⟩
 obtain ⟨a, c, rfl⟩ := (Sl.of_own ho4).form
 have HS := Lib.hid (Sl.of_own ho4)
 have HB4 := Lib.hid (HB3.out.trans (hb4.mono hs3))
 have HA4 := Lib.hid (HA.out.below HB4.out)
 clear ho4 hb4 T2
 go_wp2
 go_loopw [15] (fun p wr => ∃ i : Nat, p = .int .i64 (i : Int) ∧ i ≤ (modsK M).length ∧ Below w4.heap.size w4 wr) (fun p wr => (modsK M).length - (intOf p).toNat)
 case atStart => exact ⟨0, rfl, Nat.zero_le _, Below.refl _ _⟩
 case round =>
  obtain ⟨i, rfl, hi, hb⟩ := hrel
  have HB := Lib.hid hb
  clear hb
  by_cases hlt : i < (modsK M).length
  ·
   obtain ⟨b, o, rfl, _, kc⟩ := (HS.out.below HB.out (Nat.le_refl _)).mapAt hlt
   have hmem := List.getElem_mem hlt
   have hmi := HMM.out _ hmem
   generalize (modsK M)[i] = m at kc hmi hmem
   have T2 := Lib.hid (fun W (h : ArOk W ab M) => funcs_any ab M m W h hmi)
   have T2' := Lib.hid (T2.out wr (HA4.out.below HB.out))
   have hfl := (HA4.out.below HB.out).lenK m 3
   have HFM := Lib.hid (HA.out.2.kids m 3)
   have HND := Lib.hid (HN.out.2.1 m hmem)
   have HND3 := Lib.hid (HN.out.2.2 m hmem)
   have hsr := HB.out.size
   change (funcsK M m).length ≤ 1000000 at hfl
   clear hmem
   go_wp2_with fail
   refine T2'.out.mono ?_
   rintro e w5 ⟨⟨v5, rfl, ho5⟩, hb5⟩
   have TN := Lib.hid (names_any ab M v5 (funcsK M m) w5 ((HA4.out.below HB.out).below hb5) (Sl.of_own ho5) HFM.out hfl)
   have HB5 := Lib.hid (HB.out.trans (hb5.mono hsr))
   clear hb5 ho5 T2'
   go_wp2_with fail
   refine TN.out.mono ?_
   rintro e w6 ⟨⟨v6, rfl, ho6⟩, hb6⟩
   have TW := Lib.hid (TT.out w5.heap.size v6 _ w6 HND.out (by rw [List.length_map]; exact hfl) (by rw [List.length_map]; simpa using ho6) hb6.size)
   have hs5 := HB5.out.size
   have HB6 := Lib.hid (HB5.out.trans (hb6.mono hs5))
   clear hb6 ho6 TN
   go_wp2_with fail
   refine TW.out.mono ?_
   rintro e w7 ⟨rfl, hb7⟩
   have HB7 := Lib.hid (HB6.out.trans (hb7.mono hs5))
   have hs7 := HB7.out.size
   have T3 := Lib.hid (T2.out w7 (HA4.out.below HB7.out))
   clear TW hb7
   go_wp2_with fail
   refine T3.out.mono ?_
   rintro e w8 ⟨⟨v8, rfl, ho8⟩, hb8⟩
   obtain ⟨a2, c2, rfl⟩ := (Sl.of_own ho8).form
   have HS2 := Lib.hid (Sl.of_own ho8)
   have HB8 := Lib.hid (HB7.out.trans (hb8.mono hs7))
   have HA8 := Lib.hid (HA4.out.below HB8.out)
   clear ho8 hb8 T3
   go_wp2
   go_loopw [29] (fun p wr => ∃ j : Nat, p = .int .i64 (j : Int) ∧ j ≤ (funcsK M m).length ∧ Below w8.heap.size w8 wr) (fun p wr => (funcsK M m).length - (intOf p).toNat)
   case atStart => exact ⟨0, rfl, Nat.zero_le _, Below.refl _ _⟩
   case round =>
    obtain ⟨j, rfl, hj, hb9⟩ := hrel
    have HB9 := Lib.hid hb9
    have hs9 := hb9.size
    clear hb9
    by_cases hltj : j < (funcsK M m).length
    ·
     obtain ⟨b2, o2, rfl, _, kc2⟩ := (HS2.out.below HB9.out (Nat.le_refl _)).mapAt hltj
     have hmj := List.getElem_mem hltj
     have hfj := HFM.out _ hmj
     generalize (funcsK M m)[j] = f at kc2 hfj hmj
     obtain ⟨F, xs, hxs, hF, hnd⟩ := HND3.out f hmj
     have TK := Lib.hid (knames_any ab M f F xs wr (HA8.out.below HB9.out) hfj hxs hF)
     have hnl : (namesW xs).length ≤ 1000000 := by
      have h1 := namesW_len xs
      have h2 := wk_out M _ _ _ _ hxs
      omega
     have HNL := Lib.hid (And.intro hnd hnl)
     clear hmj hxs hF hnd hnl
     go_wp2_with fail
     refine TK.out.mono ?_
     rintro e w10 ⟨⟨v10, rfl, ho10⟩, hb10⟩
     have TW := Lib.hid (TT.out wr.heap.size v10 _ w10 HNL.out.1 HNL.out.2 ho10 hb10.size)
     have HB10 := Lib.hid (HB9.out.trans (hb10.mono hs9))
     clear hb10 ho10 TK
     go_wp2_with fail
     refine TW.out.mono ?_
     rintro e w11 ⟨rfl, hb11⟩
     have HB11 := Lib.hid (HB10.out.trans (hb11.mono hs9))
     clear hb11 TW
     go_wp2
     go_roundw
     case rel => exact ⟨j + 1, by go_num, by omega, HB11.out⟩
     case measure => simp [intOf]; omega
    ·
     have HB12 := Lib.hid (HB8.out.trans (HB9.out.mono HB8.out.size))
     go_wp2
     go_roundw
     case rel => exact ⟨i + 1, by go_num, by omega, HB12.out⟩
     case measure => simp [intOf]; omega
  ·
   go_wp2
   go_ret
   exact ⟨rfl, HB4.out.trans (HB.out.mono HB4.out.size)⟩
end Go.Proofs.YtoelmnamlnbdhaaGreatDoor
