/-
  Part of a proof of RunLoops: contracts of functions that the claim reaches, and plain lemmas.
-/
import Derived.Test.YtoelmnamlnbdhaaGreatDoorKfBN
set_option linter.all false
namespace Go.Proofs.YtoelmnamlnbdhaaGreatDoor
open Go.RowKit
open Hg (GT gl wk isK ndAt kidsK KB seenP seenL seenK)
attribute [local go_sem] Oper.semAt_some
set_option maxHeartbeats 4000000 in
theorem contains_any (B : Nat) (v : Value) (ids : List Nat) (id : Nat) (w : World) (hs : Sl w B v ids.length (ids.map idV)) (hl : ids.length ≤ 1000000000000) (hl2 : ids.length ≤ 1000000) :
 Calls Tryz.prog 66 #[v, .int .u64 (id : Int)] w fun e w' => e = .returned (.bool (decide (0 ≤ idxI ids id))) ∧ w = w' := by
 have TI := Lib.hid (index_any B v ids id w hs hl2)
 clear hs
 go_enter Tryz.func66, Tryz.ntmps66
 go_wp2_with fail
 refine TI.out.mono ?_
 rintro e w1 ⟨rfl, rfl⟩
 clear TI
 go_wp2
 go_ret
 exact ⟨rfl, rfl⟩
theorem wp_calm {P : Program} {c : Code} {K : Act → World → Prop} {Q' : Exit → Act → World → Prop} {a : Act} {w : World} (h : c.wp P (Exit.then K (fun _ _ _ => False)) a w) : c.wp P (Exit.then K Q') a w :=
 wp_mono h (fun e a w h => by cases e <;> first | exact h | exact h.elim)
def BoxI (ab B : Nat) (S : Nat → Prop) (A : World) : Prop := A.heap[B]? = some (.cells #[.pointer (some ⟨ab, 0, none⟩)] 24 (0, 0)) ∧ (∃ r, A.heap[B + 1]? = some (.cells #[r] 4 (0, 0))) ∧ ∀ q, S q ↔ q = B ∨ q = B + 1
theorem BoxI.fr {ab B : Nat} {S : Nat → Prop} {A A' : World} (h : BoxI ab B S A) (hf : Fr (fun q => ¬ S q) A A') : BoxI ab B S A' := by
 obtain ⟨h1, ⟨r, h2⟩, h3⟩ := h
 exact ⟨hf.at_ h1 (fun h => h ((h3 B).2 (.inl rfl))), ⟨r, hf.at_ h2 (fun h => h ((h3 (B + 1)).2 (.inr rfl)))⟩, h3⟩
theorem BoxI.lt {ab B : Nat} {S : Nat → Prop} {A : World} (h : BoxI ab B S A) : ∀ q, S q → B ≤ q ∧ q < A.heap.size := by
 obtain ⟨h1, ⟨r, h2⟩, h3⟩ := h
 intro q hq
 have l1 := (Array.getElem?_eq_some_iff.1 h1).1
 have l2 := (Array.getElem?_eq_some_iff.1 h2).1
 rcases (h3 q).1 hq with e | e <;> subst e <;> exact ⟨by omega, by omega⟩
def hidA (p1 p2 p3 p4 : Value) (a : Act) : Prop := ∃ u0 u5 u6 u7 u8 u9 u10 u11 u12 u13 u14 u15 u16 u17 u18 u19 u20 u21 u22 u23 u24 u25 u26 u27 : Value, a = { tmps := #[u0, p1, p2, p3, p4, u5, u6, u7, u8, u9, u10, u11, u12, u13, u14, u15, u16, u17, u18, u19, u20, u21, u22, u23, u24, u25, u26, u27], defers := [] }
def HidR (ab B : Nat) (S : Nat → Prop) (x : WItem) (a : Act) (A : World) : Prop :=
 ∃ S0 blk, BoxI ab B S0 A ∧ hidA (.pointer (some ⟨B, 0, none⟩)) (.pointer (some ⟨B + 1, 0, none⟩)) (idV x.id) (.pointer (some ⟨blk, 0, none⟩)) a ∧ A.heap[blk]? = some (.cells (ndCells x.nd x.ka x.kc) 70 (0, 0)) ∧ (∀ q, S q ↔ S0 q ∨ q = blk) ∧ ¬ S0 blk
set_option maxHeartbeats 8000000 in
set_option maxRecDepth 100000 in
theorem hidden_any (ab : Nat) (M : Nat → Option Hg.Node) (par : Nat → Nat × Int) (hp : ParOk M par) (F F2 : Nat) (xs : List (Nat × Hg.Node)) (w : World) (hA : ArOk w ab M) (hxs : wk M F [1] [] = some xs) (hF : F ≤ 1000000) (hF2 : F2 ≤ 1000000) (hid : ∀ x ∈ xs, x.1 < idTop)
 (hall : ∀ x ∈ xs, x.2.kind = 15 ∨ x.2.kind = 7 → ∃ R, seenK M par F2 x.1 [] [] = some R ∧ 0 ≤ idxI R x.2.ref ∧ R.length ≤ 1000000) :
 Calls Tryz.prog 27 #[.pointer (some ⟨ab, 0, none⟩)] w fun e w' => e = .returned (.bool false) ∧ Below w.heap.size w w' := by
 have HA := Lib.hid hA
 have HP := Lib.hid hp
 have HALL := Lib.hid (And.intro hid hall)
 have TW := Lib.hid (walk_any ab 1)
 have TR := Lib.hid (root_any ab)
 clear hp hid hall
 refine (callsIn_wide (n := 5)).1 (callsIn_of_wp_marks Tryz.func27 rfl trivial ?_ rfl)
 simp only [Tryz.ntmps27, List.size_toArray, List.length_cons, List.length_nil, Nat.reduceAdd, Nat.reduceSub, Array.replicate_succ, Array.replicate_zero, List.push_toArray, List.append_toArray, List.nil_append, List.cons_append]
 gi_wp2
 refine wpIn_wide.2 (wp_calm ?_)
 have hb0 : Below w.heap.size w ((w.alloc (.cells #[.pointer (some ⟨ab, 0, none⟩)] 24)).alloc (.cells #[.bool false] 4)) := ((Below.refl _ _).alloc (Nat.le_refl _) _).alloc (by simp) _
 have h0 : ((w.alloc (.cells #[.pointer (some ⟨ab, 0, none⟩)] 24)).alloc (.cells #[.bool false] 4)).heap[w.heap.size]? = some (.cells #[.pointer (some ⟨ab, 0, none⟩)] 24 (0, 0)) := (heap_alloc_old _ _ (by simp)).trans (heap_alloc_new w _)
 have h1 : ((w.alloc (.cells #[.pointer (some ⟨ab, 0, none⟩)] 24)).alloc (.cells #[.bool false] 4)).heap[w.heap.size + 1]? = some (.cells #[.bool false] 4 (0, 0)) := by
  have := heap_alloc_new (w.alloc (.cells #[.pointer (some ⟨ab, 0, none⟩)] 24)) (.cells #[.bool false] 4)
  rw [show (w.alloc (.cells #[.pointer (some ⟨ab, 0, none⟩)] 24)).heap.size = w.heap.size + 1 by simp] at this
  exact this
 have hz : ((w.alloc (.cells #[.pointer (some ⟨ab, 0, none⟩)] 24)).alloc (.cells #[.bool false] 4)).heap.size = w.heap.size + 2 := by simp
 generalize World.alloc (World.alloc w _) _ = W0 at hb0 h0 h1 hz ⊢
 have e0 := cell_of_row W0 w.heap.size 0 _ _ (0, 0) h0
 simp at e0
 have hHeld : (fun w' => w'.cell? ⟨w.heap.size, 0, none⟩ = some (.pointer (some ⟨ab, 0, none⟩))) W0.drew := e0
 refine wp_region_two (fun w' => w'.cell? ⟨w.heap.size, 0, none⟩ = some (.pointer (some ⟨ab, 0, none⟩))) 3 (by kernel_rfl) ?_
 refine tk 0 ?_ rfl (by kernel_rfl) (fun _ _ _ h => h) ‹_› (by rfl) ?_ ?_
 rotate_left
 · (intro w' hSw; (try dsimp only at hSw); go_simp; try with_reducible rfl)
 try simp only [Act.put, sA, sB, sC, sD, sE, sF]
 refine tk 1 ?_ rfl (by kernel_rfl) (fun _ _ _ h => h) ‹_› (by rfl) ?_ ?_
 rotate_left
 · (intro w' hSw; (try dsimp only at hSw); go_simp; try with_reducible rfl)
 try simp only [Act.put, sA, sB, sC, sD, sE, sF]
 refine wpAnyT_one (i := 2) rfl (by kernel_rfl) (fun K hK => ?_)
 go_simp
 refine (TR.out _).mono ?_
 rintro e w1 ⟨rfl, rfl⟩
 refine hK.out _ _ (hHeld) (fun hHeld => ?_)
 clear hK K
 try simp only [Act.put, sA, sB, sC, sD, sE, sF]
 refine wpAnyT_tail (by kernel_rfl) ?_
 simp only [List.drop_succ_cons, List.drop_zero]
 go_wp2_with fail
 refine (TW.out _).mono ?_
 rintro e w1 ⟨rfl, rfl⟩
 have hz' : W0.drew.heap.size = w.heap.size + 2 := hz
 rw [hz']
 have hbW : Below W0.heap.size W0 ((W0.drew.alloc (.cells #[.pointer (some ⟨ab, 0, none⟩)] 24)).alloc (.cells #[idV 1] 45)) := (((Below.refl _ _).drew).alloc (Nat.le_refl _) _).alloc (by simp) _
 have k1 : ((W0.drew.alloc (.cells #[.pointer (some ⟨ab, 0, none⟩)] 24)).alloc (.cells #[idV 1] 45)).heap[w.heap.size + 2]? = some (.cells #[.pointer (some ⟨ab, 0, none⟩)] 24 (0, 0)) := by
  have := heap_alloc_new W0.drew (.cells #[.pointer (some ⟨ab, 0, none⟩)] 24)
  rw [hz'] at this
  exact (heap_alloc_old _ _ (by simp [hz'])).trans this
 have k2 : ((W0.drew.alloc (.cells #[.pointer (some ⟨ab, 0, none⟩)] 24)).alloc (.cells #[idV 1] 45)).heap[w.heap.size + 2 + 1]? = some (.cells #[idV 1] 45 (0, 0)) := by
  have := heap_alloc_new (W0.drew.alloc (.cells #[.pointer (some ⟨ab, 0, none⟩)] 24)) (.cells #[idV 1] 45)
  rw [show (W0.drew.alloc (.cells #[.pointer (some ⟨ab, 0, none⟩)] 24)).heap.size = w.heap.size + 2 + 1 by simp [hz']] at this
  exact this
 have hzW : ((W0.drew.alloc (.cells #[.pointer (some ⟨ab, 0, none⟩)] 24)).alloc (.cells #[idV 1] 45)).heap.size = w.heap.size + 4 := by simp [hz']
 generalize World.alloc (World.alloc W0.drew _) _ = W1 at hbW k1 k2 hzW ⊢
 have g0 : W1.heap[w.heap.size]? = some (.cells #[.pointer (some ⟨ab, 0, none⟩)] 24 (0, 0)) := (hbW.block _ (by omega)).trans h0
 have g1 : W1.heap[w.heap.size + 1]? = some (.cells #[.bool false] 4 (0, 0)) := (hbW.block _ (by omega)).trans h1
 have hb1 : Below w.heap.size w W1 := hb0.trans (hbW.mono (by omega))
 obtain ⟨⟨mb, c, hAr⟩, hkb⟩ := HA.out
 have hseq := walk_seq ab mb c M w.heap.size 1 (w.heap.size + 2 + 1) (w.heap.size + 2) F xs W1 (fun W' hf => hAr.below (hb1.trans (hf.below' (by omega))) (Nat.le_refl _)) (cell_of_row W1 (w.heap.size + 2 + 1) 0 _ _ (0, 0) k2) (cell_of_row W1 (w.heap.size + 2) 0 _ _ (0, 0) k1) ⟨by omega, by omega, by omega, by omega⟩ (by decide) hkb hxs hF
 have HB1 := Lib.hid hb1
 have HARW := Lib.hid (show ∀ W', Fr (fun q => w.heap.size ≤ q) W1 W' → ArOk W' ab M from fun W' hf => HA.out.below (hb1.trans (hf.below' (by omega))))
 clear hA hAr hkb k1 k2 hHeld h0 h1 hb0 hbW e0 TW TR hb1
 go_wp2
 gi_wp2
 refine wpIn_walk (gf := 92) rfl (enters_of Tryz.func92 (by kernel_rfl) rfl) hseq (Fr.refl _ _) rfl (fun q h => by rcases h with h | h <;> omega) (by omega)
  (fun S _ A => BoxI ab w.heap.size S A) (fun _ _ _ _ => False) (fun S _ x a A => HidR ab w.heap.size S x a A) (fun S pre A A' h hf => h.fr hf) (fun _ _ _ _ _ h _ => h) ?hI1 (fun S pre A h q hq => (h.lt q hq).2) ?hI1l
  (fun q => q = w.heap.size ∨ q = w.heap.size + 1) ⟨g0, ⟨_, g1⟩, fun q => Iff.rfl⟩ (fun q e => by rcases e with e | e <;> subst e <;> exact ⟨by omega, by omega, by omega⟩) ?assign ?body ?done ?stop
 case hI1 =>
  rintro S pre x a A A' ⟨S0, blk, hi, ha, hb, hS, hn⟩ hf
  exact ⟨S0, blk, hi.fr (hf.imp (fun q _ h h' => h (.inl ((hS q).2 (.inl h'))))), ha, hf.at_ hb (fun h => h (.inl ((hS blk).2 (.inr rfl)))), hS, hn⟩
 case hI1l =>
  rintro S pre x a A ⟨S0, blk, hi, ha, hb, hS, hn⟩ q hq
  rcases (hS q).1 hq with h | h
  ·
   exact (hi.lt q h).2
  ·
   subst h; exact (Array.getElem?_eq_some_iff.1 hb).1
 case assign =>
  intro l m S pre x A K hi hpre hx hkb hf hK
  gi_wp2
  refine hK (fun q => S q ∨ q = A.heap.size) _ _ ⟨S, A.heap.size, hi.fr ((Fr.refl _ _).alloc _), ?_, heap_alloc_new A _, fun q => Iff.rfl, fun h => by have := (hi.lt _ h).2; omega⟩ ((Fr.refl _ _).alloc _) (fun q h => h.imp (fun h => h) (fun h => by omega))
  exact ⟨_, _, _, _, _, _, _, _, _, _, _, _, _, _, _, _, _, _, _, _, _, _, _, _, rfl⟩
 case body =>
  rintro l m S pre x a1 A ⟨S0, blk, ⟨hbx, ⟨r0, hbr⟩, hSv⟩, ha, hb, hS, hn⟩ hpre hf
  obtain ⟨u0, u5, u6, u7, u8, u9, u10, u11, u12, u13, u14, u15, u16, u17, u18, u19, u20, u21, u22, u23, u24, u25, u26, u27, rfl⟩ := ha
  have hxm : x.strip ∈ xs := hpre.subset (by simp)
  have hf2 : Fr (fun q => w.heap.size ≤ q) W1 A := hf.imp (fun q _ e => by rcases e with (e | e) | e | e <;> omega)
  have HAA := Lib.hid (HARW.out A hf2)
  have HX := Lib.hid (And.intro (HALL.out.1 x.strip hxm) (HALL.out.2 x.strip hxm))
  have e0 := cell_of_row A blk 0 _ _ (0, 0) hb
  have e4 := cell_of_row A blk 4 _ _ (0, 0) hb
  have eB := cell_of_row A w.heap.size 0 _ _ (0, 0) hbx
  have hbl := (Array.getElem?_eq_some_iff.1 hb).1
  have hBl := (Array.getElem?_eq_some_iff.1 hbx).1
  simp at e0 e4 eB
  have hnx : ¬ (fun _ : Nat => False) w.heap.size := fun h => h
  have hnr : ¬ (fun _ : Nat => False) (w.heap.size + 1) := fun h => h
  generalize hnd : x.nd = nd at e0 e4
  generalize hxi : x.id = xi
  have hX : xi < idTop ∧ (nd.kind = 15 ∨ nd.kind = 7 → ∃ R, seenK M par F2 xi [] [] = some R ∧ 0 ≤ idxI R nd.ref ∧ R.length ≤ 1000000) := by
   have := HX.out
   rw [← hnd, ← hxi]
   exact this
  have hHeld : (fun w' => w'.cell? ⟨w.heap.size, 0, none⟩ = some (.pointer (some ⟨ab, 0, none⟩)) ∧ w'.cell? ⟨blk, 0, none⟩ = some (.int .u8 (nd.kind : Int)) ∧ w'.cell? ⟨blk, 4, none⟩ = some (.int .u64 (nd.ref : Int))) A.drew := ⟨eB, e0, e4⟩
  clear HX hpre hf hf2 hxm
  gi_wp2
  by_cases hk : nd.kind = 15 ∨ nd.kind = 7
  ·
   obtain ⟨R, hR, hix, hRl⟩ := hX.2 hk
   have hdi : decide (0 ≤ idxI R nd.ref) = true := by simpa using hix
   have TS := Lib.hid (seen_any ab M par HP.out xi F2 R A.drew (HAA.out.below (Below.refl _ _).drew) hX.1 hR hF2)
   by_cases k15 : nd.kind = 15
   ·
    have q15 : ((nd.kind : Int) == 15) = true := by simp [k15]
    clear hk k15 hR hix
    refine wpIn_region_two (fun w' => w'.cell? ⟨w.heap.size, 0, none⟩ = some (.pointer (some ⟨ab, 0, none⟩)) ∧ w'.cell? ⟨blk, 0, none⟩ = some (.int .u8 (nd.kind : Int)) ∧ w'.cell? ⟨blk, 4, none⟩ = some (.int .u64 (nd.ref : Int))) 16 (by kernel_rfl) (by kernel_rfl) (by rintro ⟨_, _, h⟩; exact h) ?_
    refine tk 0 ?_ rfl (by kernel_rfl) (fun _ _ _ h => h) ‹_› (by rfl) ?_ ?_
    rotate_left
    · (intro w' hSw; (try dsimp only at hSw); go_simp; try with_reducible rfl)
    try simp only [Act.put, sA, sB, sC, sD, sE, sF]
    refine tk 1 ?_ rfl (by kernel_rfl) (fun _ _ _ h => h) ‹_› (by rfl) ?_ ?_
    rotate_left
    · (intro w' hSw; (try dsimp only at hSw); go_simp; try with_reducible rfl)
    try simp only [Act.put, sA, sB, sC, sD, sE, sF]
    refine tk 2 ?_ rfl (by kernel_rfl) (fun _ _ _ h => h) ‹_› (by rfl) ?_ ?_
    rotate_left
    · (intro w' hSw; (try dsimp only at hSw); go_simp; try with_reducible rfl)
    try simp only [Act.put, sA, sB, sC, sD, sE, sF]
    refine tk 3 ?_ rfl (by kernel_rfl) (fun _ _ _ h => h) ‹_› (by rfl) ?_ ?_
    rotate_left
    · (intro w' hSw; (try dsimp only at hSw); go_simp; try with_reducible rfl)
    try simp only [Act.put, sA, sB, sC, sD, sE, sF]
    refine wpAnyT_take (i := 4) rfl (by kernel_rfl) (fun _ _ _ h => h) (by assumption) (Or.inr ⟨by rfl, rfl⟩) ?_
    try simp only [Act.put, sA, sB, sC, sD, sE, sF]
    refine wpAnyT_take (i := 5) rfl (by kernel_rfl) (fun _ _ _ h => h) (by assumption) (Or.inr ⟨by rfl, rfl⟩) ?_
    try simp only [Act.put, sA, sB, sC, sD, sE, sF]
    refine wpAnyT_take (i := 6) rfl (by kernel_rfl) (fun _ _ _ h => h) (by assumption) (Or.inr ⟨by rfl, rfl⟩) ?_
    try simp only [Act.put, sA, sB, sC, sD, sE, sF]
    refine tk 7 ?_ rfl (by kernel_rfl) (fun _ _ _ h => h) ‹_› (by rfl) ?_ ?_
    rotate_left
    · (intro w' hSw; (try dsimp only at hSw); go_simp; try with_reducible rfl)
    try simp only [Act.put, sA, sB, sC, sD, sE, sF]
    refine tk 8 ?_ rfl (by kernel_rfl) (fun _ _ _ h => h) ‹_› (by rfl) ?_ ?_
    rotate_left
    · (intro w' hSw; (try dsimp only at hSw); go_simp; try with_reducible rfl)
    try simp only [Act.put, sA, sB, sC, sD, sE, sF]
    refine tk 9 ?_ rfl (by kernel_rfl) (fun _ _ _ h => h) ‹_› (by rfl) ?_ ?_
    rotate_left
    · (intro w' hSw; (try dsimp only at hSw); go_simp; try with_reducible rfl)
    try simp only [Act.put, sA, sB, sC, sD, sE, sF]
    refine tk 10 ?_ rfl (by kernel_rfl) (fun _ _ _ h => h) ‹_› (by rfl) ?_ ?_
    rotate_left
    · (intro w' hSw; (try dsimp only at hSw); go_simp; try with_reducible rfl)
    try simp only [Act.put, sA, sB, sC, sD, sE, sF]
    refine tk 12 ?_ rfl (by kernel_rfl) (fun _ _ _ h => h) ‹_› (by rfl) ?_ ?_
    rotate_left
    · (intro w' hSw; (try dsimp only at hSw); go_simp; try with_reducible rfl)
    try simp only [Act.put, sA, sB, sC, sD, sE, sF]
    refine tk 13 ?_ rfl (by kernel_rfl) (fun _ _ _ h => h) ‹_› (by rfl) ?_ ?_
    rotate_left
    · (intro w' hSw; (try dsimp only at hSw); go_simp; try with_reducible rfl)
    try simp only [Act.put, sA, sB, sC, sD, sE, sF]
    refine wpAnyT_one (i := 11) rfl (by kernel_rfl) (fun K hK => ?_)
    go_simp
    refine TS.out.mono ?_
    rintro e W5 ⟨⟨v5, rfl, ho5⟩, hb5⟩
    have HO5 := Lib.hid ho5
    have HB5 := Lib.hid hb5
    clear ho5 TS
    refine hK.out _ _ (⟨(hb5.cell (p := ⟨w.heap.size, 0, none⟩) hBl).trans hHeld.1, (hb5.cell (p := ⟨blk, 0, none⟩) hbl).trans hHeld.2.1, (hb5.cell (p := ⟨blk, 4, none⟩) hbl).trans hHeld.2.2⟩) (fun hHeld => ?_)
    clear hK K
    try simp only [Act.put, sA, sB, sC, sD, sE, sF]
    refine wpAnyT_one (i := 14) rfl (by kernel_rfl) (fun K hK => ?_)
    go_simp
    have TC := contains_any W5.heap.size v5 R nd.ref W5 (Sl.of_own HO5.out) (by omega) hRl
    rw [hdi] at TC
    refine TC.mono ?_
    rintro e W6 ⟨rfl, rfl⟩
    refine hK.out _ _ (hHeld) (fun hHeld => ?_)
    clear hK K
    try simp only [Act.put, sA, sB, sC, sD, sE, sF]
    refine tk 15 ?_ rfl (by kernel_rfl) (fun _ _ _ h => h) ‹_› (by rfl) ?_ ?_
    rotate_left
    · (intro w' hSw; (try dsimp only at hSw); go_simp; try with_reducible rfl)
    try simp only [Act.put, sA, sB, sC, sD, sE, sF]
    refine wpAnyT_tail (by kernel_rfl) ?_
    simp only [List.drop_succ_cons, List.drop_zero]
    have HFA : Fr (fun _ => False) A W5 := (Fr.refl _ A).drew.trans (Fr.of_below HB5.out)
    have HFR := Lib.hid HFA
    clear HFA
    go_wp2
    gi_wp2
    exact ⟨S0, ⟨HFR.out.at_ hbx hnx, ⟨r0, HFR.out.at_ hbr hnr⟩, hSv⟩, HFR.out.imp (fun q _ e => e.elim), fun q h => .inl ((hS q).2 (.inl h))⟩
   ·
    have q15 : ((nd.kind : Int) == 15) = false := by simp; omega
    have q7 : ((nd.kind : Int) == 7) = true := by
     have : nd.kind = 7 := by omega
     simp [this]
    clear hk k15 hR hix
    refine wpIn_region_two (fun w' => w'.cell? ⟨w.heap.size, 0, none⟩ = some (.pointer (some ⟨ab, 0, none⟩)) ∧ w'.cell? ⟨blk, 0, none⟩ = some (.int .u8 (nd.kind : Int)) ∧ w'.cell? ⟨blk, 4, none⟩ = some (.int .u64 (nd.ref : Int))) 16 (by kernel_rfl) (by kernel_rfl) (by rintro ⟨_, _, h⟩; exact h) ?_
    refine tk 0 ?_ rfl (by kernel_rfl) (fun _ _ _ h => h) ‹_› (by rfl) ?_ ?_
    rotate_left
    · (intro w' hSw; (try dsimp only at hSw); go_simp; try with_reducible rfl)
    try simp only [Act.put, sA, sB, sC, sD, sE, sF]
    refine tk 1 ?_ rfl (by kernel_rfl) (fun _ _ _ h => h) ‹_› (by rfl) ?_ ?_
    rotate_left
    · (intro w' hSw; (try dsimp only at hSw); go_simp; try with_reducible rfl)
    try simp only [Act.put, sA, sB, sC, sD, sE, sF]
    refine tk 2 ?_ rfl (by kernel_rfl) (fun _ _ _ h => h) ‹_› (by rfl) ?_ ?_
    rotate_left
    · (intro w' hSw; (try dsimp only at hSw); go_simp; try with_reducible rfl)
    try simp only [Act.put, sA, sB, sC, sD, sE, sF]
    refine tk 3 ?_ rfl (by kernel_rfl) (fun _ _ _ h => h) ‹_› (by rfl) ?_ ?_
    rotate_left
    · (intro w' hSw; (try dsimp only at hSw); go_simp; try with_reducible rfl)
    try simp only [Act.put, sA, sB, sC, sD, sE, sF]
    refine tk 4 ?_ rfl (by kernel_rfl) (fun _ _ _ h => h) ‹_› (by rfl) ?_ ?_
    rotate_left
    · (intro w' hSw; (try dsimp only at hSw); go_simp; try with_reducible rfl)
    try simp only [Act.put, sA, sB, sC, sD, sE, sF]
    refine tk 5 ?_ rfl (by kernel_rfl) (fun _ _ _ h => h) ‹_› (by rfl) ?_ ?_
    rotate_left
    · (intro w' hSw; (try dsimp only at hSw); go_simp; try with_reducible rfl)
    try simp only [Act.put, sA, sB, sC, sD, sE, sF]
    refine tk 6 ?_ rfl (by kernel_rfl) (fun _ _ _ h => h) ‹_› (by rfl) ?_ ?_
    rotate_left
    · (intro w' hSw; (try dsimp only at hSw); go_simp; try with_reducible rfl)
    try simp only [Act.put, sA, sB, sC, sD, sE, sF]
    refine tk 7 ?_ rfl (by kernel_rfl) (fun _ _ _ h => h) ‹_› (by rfl) ?_ ?_
    rotate_left
    · (intro w' hSw; (try dsimp only at hSw); go_simp; try with_reducible rfl)
    try simp only [Act.put, sA, sB, sC, sD, sE, sF]
    refine tk 8 ?_ rfl (by kernel_rfl) (fun _ _ _ h => h) ‹_› (by rfl) ?_ ?_
    rotate_left
    · (intro w' hSw; (try dsimp only at hSw); go_simp; try with_reducible rfl)
    try simp only [Act.put, sA, sB, sC, sD, sE, sF]
    refine tk 9 ?_ rfl (by kernel_rfl) (fun _ _ _ h => h) ‹_› (by rfl) ?_ ?_
    rotate_left
    · (intro w' hSw; (try dsimp only at hSw); go_simp; try with_reducible rfl)
    try simp only [Act.put, sA, sB, sC, sD, sE, sF]
    refine tk 10 ?_ rfl (by kernel_rfl) (fun _ _ _ h => h) ‹_› (by rfl) ?_ ?_
    rotate_left
    · (intro w' hSw; (try dsimp only at hSw); go_simp; try with_reducible rfl)
    try simp only [Act.put, sA, sB, sC, sD, sE, sF]
    refine tk 12 ?_ rfl (by kernel_rfl) (fun _ _ _ h => h) ‹_› (by rfl) ?_ ?_
    rotate_left
    · (intro w' hSw; (try dsimp only at hSw); go_simp; try with_reducible rfl)
    try simp only [Act.put, sA, sB, sC, sD, sE, sF]
    refine tk 13 ?_ rfl (by kernel_rfl) (fun _ _ _ h => h) ‹_› (by rfl) ?_ ?_
    rotate_left
    · (intro w' hSw; (try dsimp only at hSw); go_simp; try with_reducible rfl)
    try simp only [Act.put, sA, sB, sC, sD, sE, sF]
    refine wpAnyT_one (i := 11) rfl (by kernel_rfl) (fun K hK => ?_)
    go_simp
    refine TS.out.mono ?_
    rintro e W5 ⟨⟨v5, rfl, ho5⟩, hb5⟩
    have HO5 := Lib.hid ho5
    have HB5 := Lib.hid hb5
    clear ho5 TS
    refine hK.out _ _ (⟨(hb5.cell (p := ⟨w.heap.size, 0, none⟩) hBl).trans hHeld.1, (hb5.cell (p := ⟨blk, 0, none⟩) hbl).trans hHeld.2.1, (hb5.cell (p := ⟨blk, 4, none⟩) hbl).trans hHeld.2.2⟩) (fun hHeld => ?_)
    clear hK K
    try simp only [Act.put, sA, sB, sC, sD, sE, sF]
    refine wpAnyT_one (i := 14) rfl (by kernel_rfl) (fun K hK => ?_)
    go_simp
    have TC := contains_any W5.heap.size v5 R nd.ref W5 (Sl.of_own HO5.out) (by omega) hRl
    rw [hdi] at TC
    refine TC.mono ?_
    rintro e W6 ⟨rfl, rfl⟩
    refine hK.out _ _ (hHeld) (fun hHeld => ?_)
    clear hK K
    try simp only [Act.put, sA, sB, sC, sD, sE, sF]
    refine tk 15 ?_ rfl (by kernel_rfl) (fun _ _ _ h => h) ‹_› (by rfl) ?_ ?_
    rotate_left
    · (intro w' hSw; (try dsimp only at hSw); go_simp; try with_reducible rfl)
    try simp only [Act.put, sA, sB, sC, sD, sE, sF]
    refine wpAnyT_tail (by kernel_rfl) ?_
    simp only [List.drop_succ_cons, List.drop_zero]
    have HFA : Fr (fun _ => False) A W5 := (Fr.refl _ A).drew.trans (Fr.of_below HB5.out)
    have HFR := Lib.hid HFA
    clear HFA
    go_wp2
    gi_wp2
    exact ⟨S0, ⟨HFR.out.at_ hbx hnx, ⟨r0, HFR.out.at_ hbr hnr⟩, hSv⟩, HFR.out.imp (fun q _ e => e.elim), fun q h => .inl ((hS q).2 (.inl h))⟩
  ·
   have q15 : ((nd.kind : Int) == 15) = false := by simp; omega
   have q7 : ((nd.kind : Int) == 7) = false := by simp; omega
   clear hk
   refine wpIn_region_two (fun w' => w'.cell? ⟨w.heap.size, 0, none⟩ = some (.pointer (some ⟨ab, 0, none⟩)) ∧ w'.cell? ⟨blk, 0, none⟩ = some (.int .u8 (nd.kind : Int)) ∧ w'.cell? ⟨blk, 4, none⟩ = some (.int .u64 (nd.ref : Int))) 16 (by kernel_rfl) (by kernel_rfl) (by rintro ⟨_, _, h⟩; exact h) ?_
   refine tk 0 ?_ rfl (by kernel_rfl) (fun _ _ _ h => h) ‹_› (by rfl) ?_ ?_
   rotate_left
   · (intro w' hSw; (try dsimp only at hSw); go_simp; try with_reducible rfl)
   try simp only [Act.put, sA, sB, sC, sD, sE, sF]
   refine tk 1 ?_ rfl (by kernel_rfl) (fun _ _ _ h => h) ‹_› (by rfl) ?_ ?_
   rotate_left
   · (intro w' hSw; (try dsimp only at hSw); go_simp; try with_reducible rfl)
   try simp only [Act.put, sA, sB, sC, sD, sE, sF]
   refine tk 2 ?_ rfl (by kernel_rfl) (fun _ _ _ h => h) ‹_› (by rfl) ?_ ?_
   rotate_left
   · (intro w' hSw; (try dsimp only at hSw); go_simp; try with_reducible rfl)
   try simp only [Act.put, sA, sB, sC, sD, sE, sF]
   refine tk 3 ?_ rfl (by kernel_rfl) (fun _ _ _ h => h) ‹_› (by rfl) ?_ ?_
   rotate_left
   · (intro w' hSw; (try dsimp only at hSw); go_simp; try with_reducible rfl)
   try simp only [Act.put, sA, sB, sC, sD, sE, sF]
   refine tk 4 ?_ rfl (by kernel_rfl) (fun _ _ _ h => h) ‹_› (by rfl) ?_ ?_
   rotate_left
   · (intro w' hSw; (try dsimp only at hSw); go_simp; try with_reducible rfl)
   try simp only [Act.put, sA, sB, sC, sD, sE, sF]
   refine tk 5 ?_ rfl (by kernel_rfl) (fun _ _ _ h => h) ‹_› (by rfl) ?_ ?_
   rotate_left
   · (intro w' hSw; (try dsimp only at hSw); go_simp; try with_reducible rfl)
   try simp only [Act.put, sA, sB, sC, sD, sE, sF]
   refine tk 6 ?_ rfl (by kernel_rfl) (fun _ _ _ h => h) ‹_› (by rfl) ?_ ?_
   rotate_left
   · (intro w' hSw; (try dsimp only at hSw); go_simp; try with_reducible rfl)
   try simp only [Act.put, sA, sB, sC, sD, sE, sF]
   refine tk 7 ?_ rfl (by kernel_rfl) (fun _ _ _ h => h) ‹_› (by rfl) ?_ ?_
   rotate_left
   · (intro w' hSw; (try dsimp only at hSw); go_simp; try with_reducible rfl)
   try simp only [Act.put, sA, sB, sC, sD, sE, sF]
   refine tk 8 ?_ rfl (by kernel_rfl) (fun _ _ _ h => h) ‹_› (by rfl) ?_ ?_
   rotate_left
   · (intro w' hSw; (try dsimp only at hSw); go_simp; try with_reducible rfl)
   try simp only [Act.put, sA, sB, sC, sD, sE, sF]
   refine wpAnyT_take (i := 9) rfl (by kernel_rfl) (fun _ _ _ h => h) (by assumption) (Or.inr ⟨by rfl, rfl⟩) ?_
   try simp only [Act.put, sA, sB, sC, sD, sE, sF]
   refine wpAnyT_take (i := 10) rfl (by kernel_rfl) (fun _ _ _ h => h) (by assumption) (Or.inr ⟨by rfl, rfl⟩) ?_
   try simp only [Act.put, sA, sB, sC, sD, sE, sF]
   refine wpAnyT_take (i := 11) rfl (by kernel_rfl) (fun _ _ _ h => h) (by assumption) (Or.inr ⟨by rfl, rfl⟩) ?_
   try simp only [Act.put, sA, sB, sC, sD, sE, sF]
   refine wpAnyT_take (i := 12) rfl (by kernel_rfl) (fun _ _ _ h => h) (by assumption) (Or.inr ⟨by rfl, rfl⟩) ?_
   try simp only [Act.put, sA, sB, sC, sD, sE, sF]
   refine wpAnyT_take (i := 13) rfl (by kernel_rfl) (fun _ _ _ h => h) (by assumption) (Or.inr ⟨by rfl, rfl⟩) ?_
   try simp only [Act.put, sA, sB, sC, sD, sE, sF]
   refine wpAnyT_take (i := 14) rfl (by kernel_rfl) (fun _ _ _ h => h) (by assumption) (Or.inr ⟨by rfl, rfl⟩) ?_
   try simp only [Act.put, sA, sB, sC, sD, sE, sF]
   refine wpAnyT_take (i := 15) rfl (by kernel_rfl) (fun _ _ _ h => h) (by assumption) (Or.inr ⟨by rfl, rfl⟩) ?_
   try simp only [Act.put, sA, sB, sC, sD, sE, sF]
   refine wpAnyT_tail (by kernel_rfl) ?_
   simp only [List.drop_succ_cons, List.drop_zero]
   have HFA : Fr (fun _ => False) A A.drew := (Fr.refl _ A).drew
   have HFR := Lib.hid HFA
   clear HFA
   go_wp2
   gi_wp2
   exact ⟨S0, ⟨HFR.out.at_ hbx hnx, ⟨r0, HFR.out.at_ hbr hnr⟩, hSv⟩, HFR.out.imp (fun q _ e => e.elim), fun q h => .inl ((hS q).2 (.inl h))⟩
 case done =>
  rintro S ys W hys ⟨hbx, ⟨r0, hbr⟩, hSv⟩ hK hnS hf
  have eB := cell_of_row W (w.heap.size + 1) 0 _ _ (0, 0) hbr
  simp at eB
  have fB : W.frozen? ⟨w.heap.size + 1, 0, none⟩ = false := by simp [World.frozen?, hbr]
  have hl2 := (Array.getElem?_eq_some_iff.1 hbr).1
  have hne : ¬ w.heap.size + 1 = W1.heap.size := by omega
  have hK2 : (W.setCell ⟨w.heap.size + 1, 0, none⟩ (.bool false)).heap[W1.heap.size]? = some (.deferred (some [])) := (Below.heap_setCell W ⟨w.heap.size + 1, 0, none⟩ (.bool false) W1.heap.size (fun e => hne e.symm)).trans hK
  have hfs := hf.set (p := ⟨w.heap.size + 1, 0, none⟩) (.inl (.inl (.inr rfl))) (.bool false)
  have hbs : (W.setCell ⟨w.heap.size + 1, 0, none⟩ (.bool false)).heap[w.heap.size + 1]? = some (.cells #[.bool false] 4 (0, 0)) := heap_setCell_same hbr _
  have hpf := putObj_fr (W.setCell ⟨w.heap.size + 1, 0, none⟩ (.bool false)) W1.heap.size (.deferred none)
  have hcell : ((W.setCell ⟨w.heap.size + 1, 0, none⟩ (.bool false)).putObj W1.heap.size (.deferred none)).cell? ⟨w.heap.size + 1, 0, none⟩ = some (.bool false) := by
   have := cell_of_row _ (w.heap.size + 1) 0 _ _ (0, 0) (hpf.at_ hbs hne)
   simpa using this
  have HFIN := Lib.hid (show Below w.heap.size w ((W.setCell ⟨w.heap.size + 1, 0, none⟩ (.bool false)).putObj W1.heap.size (.deferred none)) from by
   have h1 := HB1.out.trans ((hfs.imp (D' := fun q => w.heap.size ≤ q) (fun q _ e => by rcases e with (e | e) | e | e <;> omega)).below' (by omega))
   exact h1.trans ((hpf.imp (D' := fun q => w.heap.size ≤ q) (fun q _ e => by omega)).below' h1.size))
  clear hbx hbr hSv hf hfs hbs hpf
  gi_wp2
  refine ⟨by simp, .inl ⟨_, _, rfl, run_takeDeferred hK2, ?_⟩⟩
  refine ⟨.bool false, ?_, rfl, HFIN.out⟩
  simp [results, Tryz.results27, go_sem, hcell]
 case stop =>
  intro c S pre W hpre h
  exact h.elim
end Go.Proofs.YtoelmnamlnbdhaaGreatDoor
namespace Hg
def pairK (M : Nat → Option Node) (n : Node) : List Nat := if n.num ≤ 9 then [1, 1] else if n.num ≤ 11 then [typeK M (n.kids.getD 0 0), typeK M (n.kids.getD 0 0)] else [2, 2]
def wantsK (M : Nat → Option Node) (abv : Nat → Nat) (id : Nat) (n : Node) : List Nat :=
 if n.kind = 6 then [n.type]
 else if n.kind = 7 then [(ndAt M n.ref).type]
 else if n.kind = 8 ∨ n.kind = 9 ∨ n.kind = 16 then [2]
 else if n.kind = 17 then [1]
 else if n.kind = 10 then [(ndAt M (abv id)).type]
 else if n.kind = 18 then pairK M n
 else if n.kind = 19 then (kidsK M n.ref 4).map fun p => (ndAt M p).type
 else []
end Hg
namespace Go.Proofs.YtoelmnamlnbdhaaGreatDoor
open Go.RowKit
open Hg (GT gl wk isK ndAt kidsK KB typeK pairK wantsK)
theorem byteInfo93 : (Tryz.prog.info? 5).map (fun i => (i.zero, i.size, i.bytes)) = some (some (.int .u8 0), 1, 1) := by kernel_rfl
@[reducible] def u8V (t : Nat) : Value := .int .u8 (t : Int)
def ByteRes (w : World) (l : List Nat) (e : Ending) (w' : World) : Prop := (∃ v, e = .returned v ∧ w'.ownsRow w.heap.size 5 1 v l.length (l.map u8V)) ∧ Below w.heap.size w w'
theorem byte_one {w w1 : World} {k : Nat} (hb : Below w.heap.size w w1) (t : Nat) (hk : w1.heap.size = k) : ByteRes w [t] (.returned (.slice (some ⟨k, 0, none⟩) 1 1)) (w1.alloc (.cells #[u8V t] 5)) := by
 subst hk
 exact ⟨⟨_, rfl, ⟨rfl, .inr ⟨w1.heap.size, 1, #[u8V t], rfl, hb.size, heap_alloc_new w1 _, Nat.le_refl _, by unfold maxLen; omega, rfl, rfl⟩⟩⟩, hb.alloc hb.size _⟩
theorem byte_two {w w1 : World} {k : Nat} (hb : Below w.heap.size w w1) (s t : Nat) (hk : w1.heap.size = k) : ByteRes w [s, t] (.returned (.slice (some ⟨k, 0, none⟩) 2 2)) (w1.alloc (.cells #[u8V s, u8V t] 5)) := by
 subst hk
 exact ⟨⟨_, rfl, ⟨rfl, .inr ⟨w1.heap.size, 2, #[u8V s, u8V t], rfl, hb.size, heap_alloc_new w1 _, Nat.le_refl _, by unfold maxLen; omega, rfl, rfl⟩⟩⟩, hb.alloc hb.size _⟩
set_option maxHeartbeats 4000000 in
set_option maxRecDepth 100000 in
theorem pair_any (ab : Nat) (M : Nat → Option Hg.Node) (n : Hg.Node) (ka : Option Addr) (kc : Nat) (w : World) (hA : ArOk w ab M) (hs : Sl w w.heap.size (.slice ka n.kids.length kc) n.kids.length (n.kids.map idV)) (hk : 0 < n.kids.length) (h0 : n.kids.getD 0 0 < idTop) (href : (ndAt M (n.kids.getD 0 0)).ref < idTop) :
 Calls Tryz.prog 106 #[.pointer (some ⟨ab, 0, none⟩), ndV n ka kc] w (ByteRes w (pairK M n)) := by
 generalize hr : pairK M n = r
 unfold pairK at hr
 have hba : Below w.heap.size w (w.alloc (.cells (ndCells n ka kc) 70)) := (Below.refl _ _).alloc (Nat.le_refl _) _
 have HB := Lib.hid hba
 have TT := Lib.hid (type_any ab M (n.kids.getD 0 0) _ (hA.below hba) h0 href)
 obtain ⟨b, o, rfl, hbl, kcl⟩ := hs.mapAt hk
 have hg0 : n.kids[0] = n.kids.getD 0 0 := by simp [List.getD, hk]
 rw [hg0, Nat.add_zero] at kcl
 generalize n.kids.getD 0 0 = x at kcl TT hr h0 href
 clear hA hs hg0
 by_cases h9 : n.num ≤ 9
 ·
  rw [if_pos h9] at hr
  subst hr
  go_enter Tryz.func106, Tryz.ntmps106
  go_wp2
  go_ret
  exact byte_two HB.out 1 1 (by simp)
 ·
  rw [if_neg h9] at hr
  by_cases h11 : n.num ≤ 11
  ·
   rw [if_pos h11] at hr
   subst hr
   go_enter Tryz.func106, Tryz.ntmps106
   go_wp2_with fail
   refine TT.out.mono ?_
   rintro e w1 ⟨rfl, hb1⟩
   have HB1 := Lib.hid (HB.out.trans (hb1.mono HB.out.size))
   clear TT hb1
   go_wp2
   go_ret
   exact byte_two HB1.out _ _ (by simp)
  ·
   rw [if_neg h11] at hr
   subst hr
   clear TT
   go_enter Tryz.func106, Tryz.ntmps106
   go_wp2
   go_ret
   exact byte_two HB.out 2 2 (by simp)
structure AbvOk (M : Nat → Option Hg.Node) (abv : Nat → Nat) : Prop where
 zero : M 0 = none
 kind : ∀ i n, M i = some n → n.kind ≤ 255
 dec : ∀ i n p k, M i = some n → ParIn M i (fun i => i < idTop) p k → p < i ∨ p = 0
 chain : ∀ id, id ≤ 1000000 → Chain M 3 id (abv id)
 lt : ∀ id, abv id < idTop
set_option maxHeartbeats 8000000 in
set_option maxRecDepth 100000 in
theorem wants_any (ab : Nat) (M : Nat → Option Hg.Node) (abv : Nat → Nat) (hV : AbvOk M abv) (id : Nat) (n : Hg.Node) (ka : Option Addr) (kc : Nat) (w : World) (hA : ArOk w ab M) (hid : id ≤ 1000000) (hs : Sl w w.heap.size (.slice ka n.kids.length kc) n.kids.length (n.kids.map idV)) (href : n.ref < idTop)
 (hb18 : n.kind = 18 → 0 < n.kids.length ∧ n.kids.getD 0 0 < idTop ∧ (ndAt M (n.kids.getD 0 0)).ref < idTop) :
 Calls Tryz.prog 68 #[.pointer (some ⟨ab, 0, none⟩), idV id, ndV n ka kc] w (ByteRes w (wantsK M abv id n)) := by
 obtain ⟨i0, hi0, hz0, hz1, hz2⟩ := info_parts byteInfo93
 generalize hr : wantsK M abv id n = r
 unfold wantsK at hr
 have hba : Below w.heap.size w (w.alloc (.cells (ndCells n ka kc) 70)) := (Below.refl _ _).alloc (Nat.le_refl _) _
 have HA := Lib.hid hA
 have HV := Lib.hid hV
 have HS := Lib.hid hs
 have H18 := Lib.hid hb18
 have TG := Lib.hid ((hA.below hba).getN href)
 have HB := Lib.hid hba
 have HR := Lib.hid hr
 have hnew := heap_alloc_new w (.cells (ndCells n ka kc) 70)
 clear hA hs hb18 hba hV hr
 go_enter Tryz.func68, Tryz.ntmps68
 go_wp2_with fail
 refine TG.out.mono ?_
 rintro e w1 ⟨ka1, kc1, rfl, ho1, hb1⟩
 have hw1 : w1.heap[w.heap.size]? = some (.cells (ndCells n ka kc) 70 (0, 0)) := (hb1.block _ (by simp)).trans hnew
 have hlw : w.heap.size < w1.heap.size := (Array.getElem?_eq_some_iff.1 hw1).1
 have e0 := cell_of_row w1 w.heap.size 0 _ _ (0, 0) hw1
 have e1 := cell_of_row w1 w.heap.size 1 _ _ (0, 0) hw1
 have e2 := cell_of_row w1 w.heap.size 2 _ _ (0, 0) hw1
 have e3 := cell_of_row w1 w.heap.size 3 _ _ (0, 0) hw1
 have e4 := cell_of_row w1 w.heap.size 4 _ _ (0, 0) hw1
 have e5 := cell_of_row w1 w.heap.size 5 _ _ (0, 0) hw1
 simp at e0 e1 e2 e3 e4 e5
 have HB1 := Lib.hid (HB.out.trans (hb1.mono HB.out.size))
 have HB2 := Lib.hid (HB1.out.alloc HB1.out.size (.cells (ndCells (ndAt M n.ref) ka1 kc1) 70))
 clear TG ho1 hb1 hnew hw1
 generalize hto : ndAt M n.ref = tn at HR HB2 ⊢
 have HTO := Lib.hid hto
 clear hto
 obtain ⟨kd, hkd⟩ : ∃ kd, n.kind = kd := ⟨_, rfl⟩
 rw [hkd] at e0
 have H18b := Lib.hid (show kd = 18 → 0 < n.kids.length ∧ n.kids.getD 0 0 < idTop ∧ (ndAt M (n.kids.getD 0 0)).ref < idTop from fun h => H18.out (hkd.trans h))
 rw [hkd] at HR
 have HKD := Lib.hid hkd
 clear H18 hkd
 by_cases k6 : kd = 6
 ·
  subst k6
  go_wp2
  go_ret
  have hr := HR.out
  simp at hr
  subst hr
  exact byte_one HB2.out _ (by simp)
 by_cases k7 : kd = 7
 ·
  subst k7
  go_wp2
  go_ret
  have hr := HR.out
  simp at hr
  subst hr
  exact byte_one HB2.out _ (by simp)
 by_cases k8 : kd = 8
 ·
  subst k8
  go_wp2
  go_ret
  have hr := HR.out
  simp at hr
  subst hr
  exact byte_one HB2.out _ (by simp)
 by_cases k9 : kd = 9
 ·
  subst k9
  go_wp2
  go_ret
  have hr := HR.out
  simp at hr
  subst hr
  exact byte_one HB2.out _ (by simp)
 by_cases k16 : kd = 16
 ·
  subst k16
  go_wp2
  go_ret
  have hr := HR.out
  simp at hr
  subst hr
  exact byte_one HB2.out _ (by simp)
 by_cases k17 : kd = 17
 ·
  subst k17
  go_wp2
  go_ret
  have hr := HR.out
  simp at hr
  subst hr
  exact byte_one HB2.out _ (by simp)
 by_cases k10 : kd = 10
 ·
  subst k10
  obtain ⟨⟨mb, cc, hAr⟩, hkb⟩ := HA.out
  have TA := Lib.hid (above_any ab mb cc M 3 id (abv id) (w1.alloc (.cells (ndCells tn ka1 kc1) 70)) (hAr.below HB2.out (Nat.le_refl _)) HV.out.zero hid HV.out.kind (by decide) HV.out.dec (HV.out.chain id hid))
  clear hAr hkb
  go_wp2_with fail
  refine TA.out.mono ?_
  rintro e w3 ⟨rfl, hb3⟩
  have HB3 := Lib.hid (HB2.out.trans (hb3.mono HB2.out.size))
  have TG2 := Lib.hid ((HA.out.below HB3.out).getN (HV.out.lt id))
  clear TA hb3
  go_wp2_with fail
  refine TG2.out.mono ?_
  rintro e w4 ⟨ka4, kc4, rfl, ho4, hb4⟩
  have HB4 := Lib.hid (HB3.out.trans (hb4.mono HB3.out.size))
  have HB5 := Lib.hid (HB4.out.alloc HB4.out.size (.cells (ndCells (ndAt M (abv id)) ka4 kc4) 70))
  clear TG2 ho4 hb4
  go_wp2
  go_ret
  have hr := HR.out
  simp at hr
  subst hr
  exact byte_one HB5.out _ (by simp)
 by_cases k18 : kd = 18
 ·
  subst k18
  obtain ⟨h1, h2, h3⟩ := H18b.out rfl
  have hsW := (HS.out.below HB2.out (Nat.le_refl _)).more HB2.out.size
  have TPR := Lib.hid (pair_any ab M n ka kc (w1.alloc (.cells (ndCells tn ka1 kc1) 70)) (HA.out.below HB2.out) hsW h1 h2 h3)
  have hnk : n.kind = 18 := HKD.out
  have hq : (n.kind : Int) = 18 := by omega
  rw [show ndV n ka kc = .agg #[.int .u8 18, strV n.name, .int .i64 n.num, .int .u8 (n.type : Int), .int .u64 (n.ref : Int), .slice ka n.kids.length kc] from by simp [ndV, hq]] at TPR
  clear hsW h1 h2 h3 hq hnk
  go_wp2_with fail
  refine TPR.out.mono ?_
  rintro e w3 ⟨⟨v, rfl, ho3⟩, hb3⟩
  have HO3 := Lib.hid (ownsRow_base ho3 (show w.heap.size ≤ _ from HB2.out.size))
  have HB3 := Lib.hid (HB2.out.trans (hb3.mono HB2.out.size))
  clear TPR ho3 hb3
  go_wp2
  go_ret
  have hr := HR.out
  simp only [show ¬ (18 : Nat) = 6 by decide, show ¬ (18 : Nat) = 7 by decide, show ¬ ((18 : Nat) = 8 ∨ (18 : Nat) = 9 ∨ (18 : Nat) = 16) by decide, show ¬ (18 : Nat) = 17 by decide, show ¬ (18 : Nat) = 10 by decide, if_false, if_true] at hr
  subst hr
  exact ⟨⟨v, rfl, HO3.out⟩, HB3.out⟩
 by_cases k19 : kd = 19
 ·
  subst k19
  have hr := HR.out
  simp only [show ¬ (19 : Nat) = 6 by decide, show ¬ (19 : Nat) = 7 by decide, show ¬ ((19 : Nat) = 8 ∨ (19 : Nat) = 9 ∨ (19 : Nat) = 16) by decide, show ¬ (19 : Nat) = 17 by decide, show ¬ (19 : Nat) = 10 by decide, show ¬ (19 : Nat) = 18 by decide, if_false, if_true] at hr
  have HR2 := Lib.hid hr
  have TK := Lib.hid (kids_any ab M n.ref 4 (w1.alloc (.cells (ndCells tn ka1 kc1) 70)) (HA.out.below HB2.out) href)
  have hkl := HA.out.lenK n.ref 4
  have HKI := Lib.hid (HA.out.2.kids n.ref 4)
  generalize kidsK M n.ref 4 = ps at TK hkl HKI HR2
  clear hr HR H18b
  go_wp2_with fail
  refine TK.out.mono ?_
  rintro e w3 ⟨⟨v, rfl, ho3⟩, hb3⟩
  obtain ⟨a3, c3, rfl⟩ := (Sl.of_own ho3).form
  have HS3 := Lib.hid (Sl.of_own ho3)
  have HB3 := Lib.hid (HB2.out.trans (hb3.mono HB2.out.size))
  clear TK ho3 hb3 e0 e1 e2 e3 e4 e5
  go_wp2
  go_loopw [11, 68] (fun p q wr => ∃ (k : Nat) (u : Value), p = u ∧ q = .int .i64 (k : Int) ∧ k ≤ ps.length ∧ wr.ownsRow w3.heap.size 5 1 u k ((ps.take k).map (fun x => u8V (ndAt M x).type)) ∧ Below w3.heap.size w3 wr) (fun _ q wr => ps.length - (intOf q).toNat)
  case atStart => exact ⟨0, _, rfl, rfl, Nat.zero_le _, ⟨rfl, .inl ⟨rfl, rfl⟩⟩, Below.refl _ _⟩
  case round =>
   obtain ⟨k, u, hu, rfl, hk, ho, hb⟩ := hrel
   have hu := hu.symm
   subst hu
   have HBr := Lib.hid hb
   have HO := Lib.hid ho
   by_cases hlt : k < ps.length
   ·
    obtain ⟨b, o, rfl, _, kcx⟩ := (HS3.out.below HBr.out (Nat.le_refl _)).mapAt hlt
    have TN := Lib.hid ((HA.out.below (HB3.out.trans (hb.mono HB3.out.size))).getN (HKI.out _ (List.getElem_mem hlt)))
    have htk : ps.take (k + 1) = ps.take k ++ [ps[k]] := List.take_succ_eq_append_getElem hlt
    generalize ps[k] = x at kcx TN htk
    have HTK := Lib.hid htk
    clear hb ho htk
    go_wp2_with fail
    refine TN.out.mono ?_
    rintro e w4 ⟨ka4, kc4, rfl, ho4, hb4⟩
    have HB4 := Lib.hid ((HBr.out.trans (hb4.mono HBr.out.size)).alloc (by have := hb4.size; have := HBr.out.size; omega) (.cells (ndCells (ndAt M x) ka4 kc4) 70))
    have HO4 := Lib.hid ((ownsRow_fr HO.out (Fr.of_below (D := fun _ => False) hb4) (fun _ _ e => e)).alloc (.cells (ndCells (ndAt M x) ka4 kc4) 70))
    have hsz : w3.heap.size ≤ w4.heap.size := by have := HBr.out.size; have := hb4.size; omega
    clear ho4 hb4 TN
    go_wp2_with (at_builtin; refine wpList_append_own_at _ rfl (.tmp 78) (.tmp 81) _ rfl w3.heap.size 5 i0 _ 1 1 Tryz.underlying119 hi0 hz0 hz1 hz2 rfl (by decide) _ k ((ps.take k).map (fun x => u8V (ndAt M x).type)) rfl (HO4.out.alloc _) ⟨w4.heap.size + 1, 0, none⟩ 1 1 [u8V (ndAt M x).type] rfl rfl ?_ ?_ ?_ ?_ ?_ ?_)
    all_goals first
     | intro v5 W5 own5 g5 _ at5
     | exact cells_new2 _ _ _ _
     | (unfold maxLen; omega)
     | omega
     | (simp; omega)
     | (intro u hu; simp only [List.mem_singleton] at hu; subst hu; rfl)
    have HO5 := Lib.hid (show W5.ownsRow w3.heap.size 5 1 v5 (k + 1) ((ps.take (k + 1)).map (fun x => u8V (ndAt M x).type)) from by rw [HTK.out, List.map_append, List.map_take]; exact own5)
    have HB5 := Lib.hid (show Below w3.heap.size w3 W5 from (HB4.out.alloc HB4.out.size _).grown g5 (by have := HB4.out.size; simp at this ⊢; omega) (fun q hq => (HO4.out.lt q hq).1))
    clear own5 g5 at5
    go_wp2
    go_roundw
    case rel => exact ⟨k + 1, v5, rfl, by go_num, by omega, HO5.out, HB5.out⟩
    case measure => simp [intOf]; omega
   ·
    obtain rfl : k = ps.length := by omega
    rw [List.take_length] at ho
    have HO2 := Lib.hid ho
    clear hb ho
    go_wp2
    go_ret
    have hr := HR2.out
    subst hr
    refine ⟨⟨_, rfl, ?_⟩, HB3.out.trans (HBr.out.mono HB3.out.size)⟩
    rw [List.length_map, List.map_map]
    exact ownsRow_base HO2.out HB3.out.size
 have hq : ∀ m : Nat, kd ≠ m → ((kd : Int) == (m : Int)) = false := fun m h => by simpa using (show ¬ (kd : Int) = (m : Int) by omega)
 have q6 := hq 6 k6
 have q7 := hq 7 k7
 have q8 := hq 8 k8
 have q9 := hq 9 k9
 have q16 := hq 16 k16
 have q17 := hq 17 k17
 have q10 := hq 10 k10
 have q18 := hq 18 k18
 have q19 := hq 19 k19
 have hr := HR.out
 rw [if_neg k6, if_neg k7, if_neg (by omega), if_neg k17, if_neg k10, if_neg k18, if_neg k19] at hr
 subst hr
 clear hq HR
 go_wp2
 go_ret
 exact ⟨⟨_, rfl, ⟨rfl, .inl ⟨rfl, rfl⟩⟩⟩, HB2.out⟩
end Go.Proofs.YtoelmnamlnbdhaaGreatDoor
