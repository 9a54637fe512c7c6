/-
  Part of a proof of RunLoops: contracts of functions that the claim reaches, and plain lemmas.
-/
import Derived.Test.YtoelmnamlnbdhaaGreatDoorKfBK
import Derived.Deep.LoopGhost
set_option linter.all false
namespace Go.Proofs.YtoelmnamlnbdhaaGreatDoor
open Go.RowKit
open Hg (RC RS RV KB)
variable {C : RC} {ab mb nb fb n : Nat} {w0 w w' : World} {s s' : RS} {tv tv' : Value} {V : Nat → Int}
theorem Mach.read (h : Mach C ab mb nb w0 w s tv) : w.cell? ⟨mb, 0, none⟩ = some (.pointer (some ⟨ab, 0, none⟩)) ∧ w.cell? ⟨mb, 1, none⟩ = some (.map (some nb)) ∧ w.cell? ⟨mb, 3, none⟩ = some (.int .i64 (C.fuel : Int)) ∧
 w.cell? ⟨mb, 4, none⟩ = some (.int .u8 (s.e : Int)) ∧ w.cell? ⟨mb, 6, none⟩ = some tv ∧ w.cell? ⟨mb, 7, none⟩ = some (.int .i64 (s.used : Int)) ∧ ∀ i, w.frozen? ⟨mb, i, none⟩ = false := by
 have z := fun i => cell_of_row w mb i _ _ (0, 0) h.cell
 have z0 := z 0; have z1 := z 1; have z3 := z 3; have z4 := z 4; have z6 := z 6; have z7 := z 7
 simp at z0 z1 z3 z4 z6 z7
 exact ⟨z0, z1, z3, z4, z6, z7, fun i => by simp [World.frozen?, h.cell]⟩
theorem Mach.setEnd (h : Mach C ab mb nb w0 w s tv) (e : Nat) : Mach C ab mb nb w0 (w.setCell ⟨mb, 4, none⟩ (.int .u8 (e : Int))) { s with e := e } tv :=
 h.turn ((Fr.refl (fun q => q = mb) w).set (.inl rfl) _) (heap_setCell_same (i := 4) h.cell _) rfl (Nat.le_refl _) h.us
theorem Mach.setUsed (h : Mach C ab mb nb w0 w s tv) (u : Nat) (hu : u ≤ 50000) : Mach C ab mb nb w0 (w.setCell ⟨mb, 7, none⟩ (.int .i64 (u : Int))) { s with used := u } tv :=
 h.turn ((Fr.refl (fun q => q = mb) w).set (.inl rfl) _) (heap_setCell_same (i := 7) h.cell _) rfl (Nat.le_refl _) hu
theorem Mach.ask (h : Mach C ab mb nb w0 w s tv) : Mach C ab mb nb w0 w s.ask tv := by
 obtain ⟨c, Mc, hm, hc, hn⟩ := h.nodes
 exact ⟨h.cell, h.ar, h.bel, h.tr, ⟨c, Mc, hm, by show c ≤ s.nc + 1; omega, hn⟩, h.lo, h.tm, h.fu, h.us⟩
theorem Mach.drew (h : Mach C ab mb nb w0 w s tv) : Mach C ab mb nb w0 w.drew s tv := h.below (Below.refl _ _).drew
def BurnRes (C : RC) (ab mb nb : Nat) (w0 : World) (s : RS) (tv : Value) (w : World) (e : Ending) (w' : World) : Prop :=
 e = .returned (.bool (C.burn s).1) ∧ Mach C ab mb nb w0 w' (C.burn s).2 tv ∧ Fr (fun q => q = mb) w w'
set_option maxHeartbeats 4000000 in
set_option maxRecDepth 100000 in
theorem burn_any (h : Mach C ab mb nb w0 w s tv) : Calls Tryz.prog 29 #[.pointer (some ⟨mb, 0, none⟩)] w (BurnRes C ab mb nb w0 s tv w) := by
 have h := h.drew
 obtain ⟨-, -, c3, c4, -, c7, hf⟩ := h.read
 have f4 := hf 4
 have f7 := hf 7
 have hus := h.us
 have hlt := h.lt
 have hsame := fun (u : Value) i => ((Fr.refl (fun q => q = mb) w).drew).set (p := ⟨mb, i, none⟩) (.inl rfl) u
 have hHeld : (fun w' : World => w'.cell? ⟨mb, 4, none⟩ = some (.int .u8 (s.e : Int)) ∧ w'.cell? ⟨mb, 3, none⟩ = some (.int .i64 (C.fuel : Int)) ∧ w'.cell? ⟨mb, 7, none⟩ = some (.int .i64 (s.used : Int))) w.drew := ⟨c4, c3, c7⟩
 unfold BurnRes RC.burn
 by_cases he : s.e = 0
 ·
  rw [if_pos he]
  have q1 : ((s.e : Int) == 0) = true := by simp [he]
  by_cases hu : C.fuel ≤ s.used
  ·
   rw [if_pos hu]
   have q2 : decide ((C.fuel : Int) ≤ (s.used : Int)) = true := by simp; omega
   have q3 : decide (C.fuel ≤ s.used) = true := by simpa using hu
   have HM := Lib.hid (h.setEnd 2)
   have HF := Lib.hid (hsame (.int .u8 2) 4)
   clear h hf hu hsame
   go_enter Tryz.func29, Tryz.ntmps29
   go_wp2
   refine wp_region_two (fun w' : World => w'.cell? ⟨mb, 4, none⟩ = some (.int .u8 (s.e : Int)) ∧ w'.cell? ⟨mb, 3, none⟩ = some (.int .i64 (C.fuel : Int)) ∧ w'.cell? ⟨mb, 7, none⟩ = some (.int .i64 (s.used : Int))) 17 (by kernel_rfl) ?_
   refine tk 0 ?_ rfl (by kernel_rfl) (fun _ _ _ h => h) ‹_› (by rfl) ?_ ?_
   rotate_left
   · (intro w' hSw; (try dsimp only at hSw); go_simp; try with_reducible rfl)
   try simp only [Act.put, sA, sB, sC, sD, sE, sF]
   refine tk 1 ?_ rfl (by kernel_rfl) (fun _ _ _ h => h) ‹_› (by rfl) ?_ ?_
   rotate_left
   · (intro w' hSw; (try dsimp only at hSw); go_simp; try with_reducible rfl)
   try simp only [Act.put, sA, sB, sC, sD, sE, sF]
   refine tk 2 ?_ rfl (by kernel_rfl) (fun _ _ _ h => h) ‹_› (by rfl) ?_ ?_
   rotate_left
   · (intro w' hSw; (try dsimp only at hSw); go_simp; try with_reducible rfl)
   try simp only [Act.put, sA, sB, sC, sD, sE, sF]
   refine tk 3 ?_ rfl (by kernel_rfl) (fun _ _ _ h => h) ‹_› (by rfl) ?_ ?_
   rotate_left
   · (intro w' hSw; (try dsimp only at hSw); go_simp; try with_reducible rfl)
   try simp only [Act.put, sA, sB, sC, sD, sE, sF]
   refine tk 4 ?_ rfl (by kernel_rfl) (fun _ _ _ h => h) ‹_› (by rfl) ?_ ?_
   rotate_left
   · (intro w' hSw; (try dsimp only at hSw); go_simp; try with_reducible rfl)
   try simp only [Act.put, sA, sB, sC, sD, sE, sF]
   refine tk 5 ?_ rfl (by kernel_rfl) (fun _ _ _ h => h) ‹_› (by rfl) ?_ ?_
   rotate_left
   · (intro w' hSw; (try dsimp only at hSw); go_simp; try with_reducible rfl)
   try simp only [Act.put, sA, sB, sC, sD, sE, sF]
   refine tk 6 ?_ rfl (by kernel_rfl) (fun _ _ _ h => h) ‹_› (by rfl) ?_ ?_
   rotate_left
   · (intro w' hSw; (try dsimp only at hSw); go_simp; try with_reducible rfl)
   try simp only [Act.put, sA, sB, sC, sD, sE, sF]
   refine tk 7 ?_ rfl (by kernel_rfl) (fun _ _ _ h => h) ‹_› (by rfl) ?_ ?_
   rotate_left
   · (intro w' hSw; (try dsimp only at hSw); go_simp; try with_reducible rfl)
   try simp only [Act.put, sA, sB, sC, sD, sE, sF]
   refine tk 8 ?_ rfl (by kernel_rfl) (fun _ _ _ h => h) ‹_› (by rfl) ?_ ?_
   rotate_left
   · (intro w' hSw; (try dsimp only at hSw); go_simp; try with_reducible rfl)
   try simp only [Act.put, sA, sB, sC, sD, sE, sF]
   refine tk 9 ?_ rfl (by kernel_rfl) (fun _ _ _ h => h) ‹_› (by rfl) ?_ ?_
   rotate_left
   · (intro w' hSw; (try dsimp only at hSw); go_simp; try with_reducible rfl)
   try simp only [Act.put, sA, sB, sC, sD, sE, sF]
   refine tk 10 ?_ rfl (by kernel_rfl) (fun _ _ _ h => h) ‹_› (by rfl) ?_ ?_
   rotate_left
   · (intro w' hSw; (try dsimp only at hSw); go_simp; try with_reducible rfl)
   try simp only [Act.put, sA, sB, sC, sD, sE, sF]
   refine tk 11 ?_ rfl (by kernel_rfl) (fun _ _ _ h => h) ‹_› (by rfl) ?_ ?_
   rotate_left
   · (intro w' hSw; (try dsimp only at hSw); go_simp; try with_reducible rfl)
   try simp only [Act.put, sA, sB, sC, sD, sE, sF]
   refine tk 12 ?_ rfl (by kernel_rfl) (fun _ _ _ h => h) ‹_› (by rfl) ?_ ?_
   rotate_left
   · (intro w' hSw; (try dsimp only at hSw); go_simp; try with_reducible rfl)
   try simp only [Act.put, sA, sB, sC, sD, sE, sF]
   refine tk 13 ?_ rfl (by kernel_rfl) (fun _ _ _ h => h) ‹_› (by rfl) ?_ ?_
   rotate_left
   · (intro w' hSw; (try dsimp only at hSw); go_simp; try with_reducible rfl)
   try simp only [Act.put, sA, sB, sC, sD, sE, sF]
   refine tk 14 ?_ rfl (by kernel_rfl) (fun _ _ _ h => h) ‹_› (by rfl) ?_ ?_
   rotate_left
   · (intro w' hSw; (try dsimp only at hSw); go_simp; try with_reducible rfl)
   try simp only [Act.put, sA, sB, sC, sD, sE, sF]
   refine tk 15 ?_ rfl (by kernel_rfl) (fun _ _ _ h => h) ‹_› (by rfl) ?_ ?_
   rotate_left
   · (intro w' hSw; (try dsimp only at hSw); go_simp; try with_reducible rfl)
   try simp only [Act.put, sA, sB, sC, sD, sE, sF]
   refine tk 16 ?_ rfl (by kernel_rfl) (fun _ _ _ h => h) ‹_› (by rfl) ?_ ?_
   rotate_left
   · (intro w' hSw; (try dsimp only at hSw); go_simp; try with_reducible rfl)
   try simp only [Act.put, sA, sB, sC, sD, sE, sF]
   refine wpAnyT_tail (by kernel_rfl) ?_
   simp only [List.drop_succ_cons, List.drop_zero]
   generalize w.drew = wd at c3 c4 c7 f4 f7 hHeld HM HF ⊢
   go_upto_region 3 with fail
   clear c3 c4 c7 hHeld f4 f7
   generalize World.setCell wd _ _ = w4 at HM HF ⊢
   have c4 := HM.out.read.2.2.2.1
   go_wp2
   go_ret
   exact ⟨rfl, HM.out, HF.out⟩
  ·
   rw [if_neg hu]
   have q2 : decide ((C.fuel : Int) ≤ (s.used : Int)) = false := by simp; omega
   have q3 : decide (C.fuel ≤ s.used) = false := by simpa using hu
   have q4 : ((s.e : Int) != 0) = false := by simp [he]
   have hfu := h.fu
   have HM := Lib.hid (h.setUsed (s.used + 1) (by omega))
   have HF := Lib.hid (hsame (.int .i64 ((s.used + 1 : Nat) : Int)) 7)
   have hw1 : wrap64 ((s.used : Int) + 1) = ((s.used + 1 : Nat) : Int) := by unfold wrap64; omega
   clear h hf hu hsame
   go_enter Tryz.func29, Tryz.ntmps29
   go_wp2
   refine wp_region_two (fun w' : World => w'.cell? ⟨mb, 4, none⟩ = some (.int .u8 (s.e : Int)) ∧ w'.cell? ⟨mb, 3, none⟩ = some (.int .i64 (C.fuel : Int)) ∧ w'.cell? ⟨mb, 7, none⟩ = some (.int .i64 (s.used : Int))) 17 (by kernel_rfl) ?_
   refine tk 0 ?_ rfl (by kernel_rfl) (fun _ _ _ h => h) ‹_› (by rfl) ?_ ?_
   rotate_left
   · (intro w' hSw; (try dsimp only at hSw); go_simp; try with_reducible rfl)
   try simp only [Act.put, sA, sB, sC, sD, sE, sF]
   refine tk 1 ?_ rfl (by kernel_rfl) (fun _ _ _ h => h) ‹_› (by rfl) ?_ ?_
   rotate_left
   · (intro w' hSw; (try dsimp only at hSw); go_simp; try with_reducible rfl)
   try simp only [Act.put, sA, sB, sC, sD, sE, sF]
   refine tk 2 ?_ rfl (by kernel_rfl) (fun _ _ _ h => h) ‹_› (by rfl) ?_ ?_
   rotate_left
   · (intro w' hSw; (try dsimp only at hSw); go_simp; try with_reducible rfl)
   try simp only [Act.put, sA, sB, sC, sD, sE, sF]
   refine tk 3 ?_ rfl (by kernel_rfl) (fun _ _ _ h => h) ‹_› (by rfl) ?_ ?_
   rotate_left
   · (intro w' hSw; (try dsimp only at hSw); go_simp; try with_reducible rfl)
   try simp only [Act.put, sA, sB, sC, sD, sE, sF]
   refine tk 4 ?_ rfl (by kernel_rfl) (fun _ _ _ h => h) ‹_› (by rfl) ?_ ?_
   rotate_left
   · (intro w' hSw; (try dsimp only at hSw); go_simp; try with_reducible rfl)
   try simp only [Act.put, sA, sB, sC, sD, sE, sF]
   refine tk 5 ?_ rfl (by kernel_rfl) (fun _ _ _ h => h) ‹_› (by rfl) ?_ ?_
   rotate_left
   · (intro w' hSw; (try dsimp only at hSw); go_simp; try with_reducible rfl)
   try simp only [Act.put, sA, sB, sC, sD, sE, sF]
   refine tk 6 ?_ rfl (by kernel_rfl) (fun _ _ _ h => h) ‹_› (by rfl) ?_ ?_
   rotate_left
   · (intro w' hSw; (try dsimp only at hSw); go_simp; try with_reducible rfl)
   try simp only [Act.put, sA, sB, sC, sD, sE, sF]
   refine tk 7 ?_ rfl (by kernel_rfl) (fun _ _ _ h => h) ‹_› (by rfl) ?_ ?_
   rotate_left
   · (intro w' hSw; (try dsimp only at hSw); go_simp; try with_reducible rfl)
   try simp only [Act.put, sA, sB, sC, sD, sE, sF]
   refine tk 8 ?_ rfl (by kernel_rfl) (fun _ _ _ h => h) ‹_› (by rfl) ?_ ?_
   rotate_left
   · (intro w' hSw; (try dsimp only at hSw); go_simp; try with_reducible rfl)
   try simp only [Act.put, sA, sB, sC, sD, sE, sF]
   refine tk 9 ?_ rfl (by kernel_rfl) (fun _ _ _ h => h) ‹_› (by rfl) ?_ ?_
   rotate_left
   · (intro w' hSw; (try dsimp only at hSw); go_simp; try with_reducible rfl)
   try simp only [Act.put, sA, sB, sC, sD, sE, sF]
   refine tk 10 ?_ rfl (by kernel_rfl) (fun _ _ _ h => h) ‹_› (by rfl) ?_ ?_
   rotate_left
   · (intro w' hSw; (try dsimp only at hSw); go_simp; try with_reducible rfl)
   try simp only [Act.put, sA, sB, sC, sD, sE, sF]
   refine tk 11 ?_ rfl (by kernel_rfl) (fun _ _ _ h => h) ‹_› (by rfl) ?_ ?_
   rotate_left
   · (intro w' hSw; (try dsimp only at hSw); go_simp; try with_reducible rfl)
   try simp only [Act.put, sA, sB, sC, sD, sE, sF]
   refine tk 12 ?_ rfl (by kernel_rfl) (fun _ _ _ h => h) ‹_› (by rfl) ?_ ?_
   rotate_left
   · (intro w' hSw; (try dsimp only at hSw); go_simp; try with_reducible rfl)
   try simp only [Act.put, sA, sB, sC, sD, sE, sF]
   refine tk 13 ?_ rfl (by kernel_rfl) (fun _ _ _ h => h) ‹_› (by rfl) ?_ ?_
   rotate_left
   · (intro w' hSw; (try dsimp only at hSw); go_simp; try with_reducible rfl)
   try simp only [Act.put, sA, sB, sC, sD, sE, sF]
   refine tk 14 ?_ rfl (by kernel_rfl) (fun _ _ _ h => h) ‹_› (by rfl) ?_ ?_
   rotate_left
   · (intro w' hSw; (try dsimp only at hSw); go_simp; try with_reducible rfl)
   try simp only [Act.put, sA, sB, sC, sD, sE, sF]
   refine tk 15 ?_ rfl (by kernel_rfl) (fun _ _ _ h => h) ‹_› (by rfl) ?_ ?_
   rotate_left
   · (intro w' hSw; (try dsimp only at hSw); go_simp; try with_reducible rfl)
   try simp only [Act.put, sA, sB, sC, sD, sE, sF]
   refine tk 16 ?_ rfl (by kernel_rfl) (fun _ _ _ h => h) ‹_› (by rfl) ?_ ?_
   rotate_left
   · (intro w' hSw; (try dsimp only at hSw); go_simp; try with_reducible rfl)
   try simp only [Act.put, sA, sB, sC, sD, sE, sF]
   refine wpAnyT_tail (by kernel_rfl) ?_
   simp only [List.drop_succ_cons, List.drop_zero]
   go_wp2
   go_ret
   exact ⟨rfl, HM.out, HF.out⟩
 ·
  rw [if_neg he]
  have q1 : ((s.e : Int) == 0) = false := by simp; omega
  have q2 : ((s.e : Int) != 0) = true := by simp; omega
  have HM := Lib.hid h
  have HF := Lib.hid ((Fr.refl (fun q => q = mb) w).drew)
  clear h hf he hsame
  go_enter Tryz.func29, Tryz.ntmps29
  go_wp2
  refine wp_region_two (fun w' : World => w'.cell? ⟨mb, 4, none⟩ = some (.int .u8 (s.e : Int)) ∧ w'.cell? ⟨mb, 3, none⟩ = some (.int .i64 (C.fuel : Int)) ∧ w'.cell? ⟨mb, 7, none⟩ = some (.int .i64 (s.used : Int))) 17 (by kernel_rfl) ?_
  refine tk 0 ?_ rfl (by kernel_rfl) (fun _ _ _ h => h) ‹_› (by rfl) ?_ ?_
  rotate_left
  · (intro w' hSw; (try dsimp only at hSw); go_simp; try with_reducible rfl)
  try simp only [Act.put, sA, sB, sC, sD, sE, sF]
  refine tk 1 ?_ rfl (by kernel_rfl) (fun _ _ _ h => h) ‹_› (by rfl) ?_ ?_
  rotate_left
  · (intro w' hSw; (try dsimp only at hSw); go_simp; try with_reducible rfl)
  try simp only [Act.put, sA, sB, sC, sD, sE, sF]
  refine tk 2 ?_ rfl (by kernel_rfl) (fun _ _ _ h => h) ‹_› (by rfl) ?_ ?_
  rotate_left
  · (intro w' hSw; (try dsimp only at hSw); go_simp; try with_reducible rfl)
  try simp only [Act.put, sA, sB, sC, sD, sE, sF]
  refine tk 3 ?_ rfl (by kernel_rfl) (fun _ _ _ h => h) ‹_› (by rfl) ?_ ?_
  rotate_left
  · (intro w' hSw; (try dsimp only at hSw); go_simp; try with_reducible rfl)
  try simp only [Act.put, sA, sB, sC, sD, sE, sF]
  refine tk 4 ?_ rfl (by kernel_rfl) (fun _ _ _ h => h) ‹_› (by rfl) ?_ ?_
  rotate_left
  · (intro w' hSw; (try dsimp only at hSw); go_simp; try with_reducible rfl)
  try simp only [Act.put, sA, sB, sC, sD, sE, sF]
  refine tk 5 ?_ rfl (by kernel_rfl) (fun _ _ _ h => h) ‹_› (by rfl) ?_ ?_
  rotate_left
  · (intro w' hSw; (try dsimp only at hSw); go_simp; try with_reducible rfl)
  try simp only [Act.put, sA, sB, sC, sD, sE, sF]
  refine tk 6 ?_ rfl (by kernel_rfl) (fun _ _ _ h => h) ‹_› (by rfl) ?_ ?_
  rotate_left
  · (intro w' hSw; (try dsimp only at hSw); go_simp; try with_reducible rfl)
  try simp only [Act.put, sA, sB, sC, sD, sE, sF]
  refine wpAnyT_take (i := 7) rfl (by kernel_rfl) (fun _ _ _ h => h) (by assumption) (Or.inr ⟨by rfl, rfl⟩) ?_
  try simp only [Act.put, sA, sB, sC, sD, sE, sF]
  refine wpAnyT_take (i := 8) rfl (by kernel_rfl) (fun _ _ _ h => h) (by assumption) (Or.inr ⟨by rfl, rfl⟩) ?_
  try simp only [Act.put, sA, sB, sC, sD, sE, sF]
  refine wpAnyT_take (i := 9) rfl (by kernel_rfl) (fun _ _ _ h => h) (by assumption) (Or.inr ⟨by rfl, rfl⟩) ?_
  try simp only [Act.put, sA, sB, sC, sD, sE, sF]
  refine wpAnyT_take (i := 10) rfl (by kernel_rfl) (fun _ _ _ h => h) (by assumption) (Or.inr ⟨by rfl, rfl⟩) ?_
  try simp only [Act.put, sA, sB, sC, sD, sE, sF]
  refine wpAnyT_take (i := 11) rfl (by kernel_rfl) (fun _ _ _ h => h) (by assumption) (Or.inr ⟨by rfl, rfl⟩) ?_
  try simp only [Act.put, sA, sB, sC, sD, sE, sF]
  refine wpAnyT_take (i := 12) rfl (by kernel_rfl) (fun _ _ _ h => h) (by assumption) (Or.inr ⟨by rfl, rfl⟩) ?_
  try simp only [Act.put, sA, sB, sC, sD, sE, sF]
  refine wpAnyT_take (i := 13) rfl (by kernel_rfl) (fun _ _ _ h => h) (by assumption) (Or.inr ⟨by rfl, rfl⟩) ?_
  try simp only [Act.put, sA, sB, sC, sD, sE, sF]
  refine wpAnyT_take (i := 14) rfl (by kernel_rfl) (fun _ _ _ h => h) (by assumption) (Or.inr ⟨by rfl, rfl⟩) ?_
  try simp only [Act.put, sA, sB, sC, sD, sE, sF]
  refine wpAnyT_take (i := 15) rfl (by kernel_rfl) (fun _ _ _ h => h) (by assumption) (Or.inr ⟨by rfl, rfl⟩) ?_
  try simp only [Act.put, sA, sB, sC, sD, sE, sF]
  refine wpAnyT_take (i := 16) rfl (by kernel_rfl) (fun _ _ _ h => h) (by assumption) (Or.inr ⟨by rfl, rfl⟩) ?_
  try simp only [Act.put, sA, sB, sC, sD, sE, sF]
  refine wpAnyT_tail (by kernel_rfl) ?_
  simp only [List.drop_succ_cons, List.drop_zero]
  go_wp2
  go_ret
  exact ⟨rfl, HM.out, HF.out⟩
def RNodeRes (C : RC) (ab mb nb : Nat) (w0 : World) (s : RS) (tv : Value) (id : Nat) (w : World) (e : Ending) (w' : World) : Prop :=
 ∃ ka kc, e = .returned (ndV (C.nd id) ka kc) ∧ Mach C ab mb nb w0 w' s.ask tv ∧ Fr (fun q => q = nb) w w' ∧
   Keep mb w' tv (.slice ka (C.nd id).kids.length kc) (C.nd id).kids.length ((C.nd id).kids.map idV)
theorem rone_any (b : Bool) (w : World) : Calls Tryz.prog 162 #[.bool b] w fun e w' => e = .returned (i64V (Hg.rOne b)) ∧ w' = w := by
 cases b
 ·
  go_enter Tryz.func162, Tryz.ntmps162
  go_wp2
  go_ret
  exact ⟨rfl, rfl⟩
 ·
  go_enter Tryz.func162, Tryz.ntmps162
  go_wp2
  go_ret
  exact ⟨rfl, rfl⟩
set_option maxHeartbeats 4000000 in
theorem rEval_any (op : Int) (hop : op = 1 ∨ op = 6) (x y : Int) (w : World) :
 Calls Tryz.prog 149 #[i64V op, i64V x, i64V y] w fun e w' => e = .returned (.tuple #[i64V (Hg.rEval op x y), .bool true]) ∧ w' = w := by
 rcases hop with rfl | rfl
 ·
  have hr : Hg.rEval 1 x y = wrap64 (x + y) := by simp [Hg.rEval, Hg.rwrap, wrap64]
  rw [hr]
  clear hr
  go_enter Tryz.func149, Tryz.ntmps149
  go_wp2
  go_ret2
  exact ⟨rfl, rfl⟩
 ·
  have hr : Hg.rEval 6 x y = Hg.rOne (decide (x < y)) := rfl
  rw [hr]
  clear hr
  have T1 := fun W => Lib.hid (rone_any (decide (x < y)) W)
  go_enter Tryz.func149, Tryz.ntmps149
  go_wp2_with fail
  refine (T1 _).out.mono ?_
  rintro e w1 ⟨rfl, rfl⟩
  go_wp2
  go_ret2
  exact ⟨rfl, rfl⟩
theorem six_cells {w : World} {b : Nat} (nd : Hg.Node) (ka : Option Addr) (kc : Nat) (h : w.heap[b]? = some (.cells #[.int .u8 (nd.kind : Int), strV nd.name, .int .i64 nd.num, .int .u8 (nd.type : Int), .int .u64 (nd.ref : Int), .slice ka nd.kids.length kc] 70 (0, 0))) :
 w.cell? ⟨b, 0, none⟩ = some (.int .u8 (nd.kind : Int)) ∧ w.cell? ⟨b, 1, none⟩ = some (strV nd.name) ∧ w.cell? ⟨b, 2, none⟩ = some (.int .i64 nd.num) ∧ w.cell? ⟨b, 3, none⟩ = some (.int .u8 (nd.type : Int)) ∧ w.cell? ⟨b, 4, none⟩ = some (.int .u64 (nd.ref : Int)) ∧ w.cell? ⟨b, 5, none⟩ = some (.slice ka nd.kids.length kc) ∧ ∀ i, w.frozen? ⟨b, i, none⟩ = false := by
 have z := fun i => cell_of_row w b i _ _ (0, 0) h
 have z0 := z 0; have z1 := z 1; have z2 := z 2; have z3 := z 3; have z4 := z 4; have z5 := z 5
 simp at z0 z1 z2 z3 z4 z5
 exact ⟨z0, z1, z2, z3, z4, z5, fun i => by simp [World.frozen?, h]⟩
set_option maxHeartbeats 4000000 in
set_option maxRecDepth 100000 in
theorem rnode_any (h : Mach C ab mb nb w0 w s tv) (id : Nat) (hid : id < idTop) (hnc : s.nc < 1000000) :
 Calls Tryz.prog 30 #[.pointer (some ⟨mb, 0, none⟩), .int .u64 (id : Int)] w (RNodeRes C ab mb nb w0 s tv id w) := by
 have hb1 : Below w.heap.size w (w.alloc (.cells #[.int .u8 0, .string ⟨#[]⟩, .int .i64 0, .int .u8 0, .int .u64 0, .slice none 0 0] 70)) := (Below.refl _ _).alloc (Nat.le_refl _) _
 have hn1 := heap_alloc_new w (.cells #[.int .u8 0, .string ⟨#[]⟩, .int .i64 0, .int .u8 0, .int .u64 0, .slice none 0 0] 70)
 have hz1 : (w.alloc (.cells #[.int .u8 0, .string ⟨#[]⟩, .int .i64 0, .int .u8 0, .int .u64 0, .slice none 0 0] 70)).heap.size = w.heap.size + 1 := by simp
 have hm1 := h.below hb1
 obtain ⟨c0, c1, -, -, -, -, -⟩ := hm1.read
 obtain ⟨c, Mc, hm, hc, hn⟩ := h.nodes
 have HM0 := Lib.hid h
 have HM1 := Lib.hid hm1
 cases hM : Mc id with
 | some nd =>
   obtain ⟨ka, kc, hlk, hs, hz⟩ := hm.lookZ hb1 hid hM
   have hnd : nd = C.nd id := hn id nd hM
   subst hnd
   have HK := Lib.hid (show Keep mb w tv (.slice ka (C.nd id).kids.length kc) (C.nd id).kids.length ((C.nd id).kids.map idV) from ⟨hs, fun _ q e => ⟨(hz q e).1, (hz q e).2.1⟩⟩)
   have HND := Lib.hid (show ∃ nd, C.nd id = nd from ⟨_, rfl⟩)
   unfold RNodeRes
   generalize C.nd id = nd at hlk HK ⊢
   clear hs hz hm hn hM hm1 h HND
   go_enter Tryz.func30, Tryz.ntmps30
   go_upto_region 1 with fail
   generalize World.alloc w _ = w1 at hb1 hn1 hz1 c0 c1 HM1 hlk ⊢
   go_upto_region 2 with fail
   have hn2 := heap_alloc_new w1 (.cells #[.int .u8 (nd.kind : Int), strV nd.name, .int .i64 nd.num, .int .u8 (nd.type : Int), .int .u64 (nd.ref : Int), .slice ka nd.kids.length kc] 70)
   have hb2 := hb1.alloc (by omega) (.cells #[.int .u8 (nd.kind : Int), strV nd.name, .int .i64 nd.num, .int .u8 (nd.type : Int), .int .u64 (nd.ref : Int), .slice ka nd.kids.length kc] 70)
   have hk2 := (heap_alloc_old w1 (.cells #[.int .u8 (nd.kind : Int), strV nd.name, .int .i64 nd.num, .int .u8 (nd.type : Int), .int .u64 (nd.ref : Int), .slice ka nd.kids.length kc] 70) (show w.heap.size < w1.heap.size by omega)).trans hn1
   rw [hz1] at hn2
   generalize World.alloc w1 _ = w2 at hn2 hb2 hk2 ⊢
   obtain ⟨z0, z1, z2, z3, z4, z5, zf⟩ := six_cells nd ka kc hn2
   have f2 : ∀ i, w2.frozen? ⟨w.heap.size, i, none⟩ = false := fun i => by simp [World.frozen?, hk2]
   have cc := fun i => cell_of_row w2 w.heap.size i _ _ (0, 0) hk2
   have y0 := cc 0; have y1 := cc 1; have y2 := cc 2; have y3 := cc 3; have y4 := cc 4; have y5 := cc 5
   simp at y0 y1 y2 y3 y4 y5
   have HB2 := Lib.hid hb2
   clear c0 c1 hlk hb1 hn1 cc hk2 hn2 hb2 zf
   go_wp2
   have hbF := set6_below HB2.out (Nat.le_refl _) (.int .u8 (nd.kind : Int)) (strV nd.name) (.int .i64 nd.num) (.int .u8 (nd.type : Int)) (.int .u64 (nd.ref : Int)) (.slice ka nd.kids.length kc)
   exact bodyPost_ret (v := ndV nd ka kc) (by simp [results, Tryz.results30, go_sem, y0, y1, y2, y3, y4, y5, f2]) rfl ⟨ka, kc, rfl, (HM0.out.below hbF).ask, Fr.of_below hbF, HK.out.below hbF⟩
 | none =>
   have hlk := (hm.below hb1 (Nat.le_refl _)).look hid |>.1 hM
   have TG := Lib.hid (fun W (hb : Below w.heap.size w W) => (HM0.out.below hb).arOk.getN hid)
   have hlen := h.arOk.len id
   have hndq : Hg.ndAt C.M id = C.nd id := rfl
   unfold RNodeRes
   rw [hndq] at hlen
   have HMC := Lib.hid (And.intro hm (And.intro hc hn))
   have HMN := Lib.hid hM
   clear hm hn hM hm1 h
   go_enter Tryz.func30, Tryz.ntmps30
   go_upto_region 1 with fail
   generalize World.alloc w _ = w1 at hb1 hn1 hz1 c0 c1 HM1 hlk ⊢
   go_upto_region 2 with fail
   generalize hWa : World.alloc w1 _ = w2
   obtain ⟨hb2', hn2, hz2⟩ := new_alloc hWa
   have hk2 := (hb2'.block w.heap.size (by omega)).trans hn1
   have hb2 := hb1.trans (hb2'.mono hb1.size)
   rw [hz1] at hn2
   clear hWa hb2' hlk hn1
   have f2 : ∀ i, w2.frozen? ⟨w.heap.size, i, none⟩ = false := fun i => by simp [World.frozen?, hk2]
   have f3 : ∀ i, w2.frozen? ⟨w.heap.size + 1, i, none⟩ = false := fun i => by simp [World.frozen?, hn2]
   have c02 := (hb2.cell (p := ⟨mb, 0, none⟩) HM0.out.lt).trans HM0.out.read.1
   have HB2 := Lib.hid hb2
   have TG2 := Lib.hid (TG.out w2 hb2)
   have HN2 := Lib.hid (And.intro hn2 hk2)
   clear hn2 hk2 hb2 c0 c1 TG hb1
   go_wp2_with fail
   refine TG2.out.mono ?_
   rintro e w3 ⟨ka, kc, rfl, ho3, hb3⟩
   rw [show Hg.ndAt C.M id = C.nd id from rfl] at ho3 ⊢
   have HND := Lib.hid (show ∀ i n, Mc i = some n → n = C.nd i from HMC.out.2.2)
   generalize hnd : C.nd id = nd at hlen ho3 ⊢
   have hb23 := HB2.out.trans (hb3.mono HB2.out.size)
   have hn3 := (hb3.block (w.heap.size + 1) (by omega)).trans HN2.out.1
   have hk3 := (hb3.block w.heap.size (by omega)).trans HN2.out.2
   have f3 : ∀ i, w3.frozen? ⟨w.heap.size + 1, i, none⟩ = false := fun i => by simp [World.frozen?, hn3]
   have cc := fun i => cell_of_row w3 (w.heap.size + 1) i _ _ (0, 0) hn3
   have y0 := cc 0; have y1 := cc 1; have y2 := cc 2; have y3 := cc 3; have y4 := cc 4; have y5 := cc 5
   simp at y0 y1 y2 y3 y4 y5
   have hb4 := set6_below hb23 (show w.heap.size ≤ w.heap.size + 1 by omega) (.int .u8 (nd.kind : Int)) (strV nd.name) (.int .i64 nd.num) (.int .u8 (nd.type : Int)) (.int .u64 (nd.ref : Int)) (.slice ka nd.kids.length kc)
   have ho4 := set6_own ho3 (show w.heap.size + 1 < w2.heap.size by omega) (.int .u8 (nd.kind : Int)) (strV nd.name) (.int .i64 nd.num) (.int .u8 (nd.type : Int)) (.int .u64 (nd.ref : Int)) (.slice ka nd.kids.length kc)
   have hk4 := ((set6_below (Below.refl (w.heap.size + 1) w3) (Nat.le_refl _) (.int .u8 (nd.kind : Int)) (strV nd.name) (.int .i64 nd.num) (.int .u8 (nd.type : Int)) (.int .u64 (nd.ref : Int)) (.slice ka nd.kids.length kc)).block w.heap.size (by omega)).trans hk3
   have hn4 := heap_setCell_same (i := 5) (heap_setCell_same (i := 4) (heap_setCell_same (i := 3) (heap_setCell_same (i := 2) (heap_setCell_same (i := 1) (heap_setCell_same (i := 0) hn3 (.int .u8 (nd.kind : Int))) (strV nd.name)) (.int .i64 nd.num)) (.int .u8 (nd.type : Int))) (.int .u64 (nd.ref : Int))) (.slice ka nd.kids.length kc)
   have hs3 := hb3.size
   clear hb23 hn3 hk3 cc f2 TG2
   go_upto_region 4 with fail
   clear y0 y1 y2 y3 y4 y5 f3 hb3 ho3
   generalize World.setCell (World.setCell (World.setCell (World.setCell (World.setCell (World.setCell w3 _ _) _ _) _ _) _ _) _ _) _ _ = w4 at hb4 ho4 hk4 hn4 ⊢
   replace hn4 : w4.heap[w.heap.size + 1]? = some (.cells #[.int .u8 (nd.kind : Int), strV nd.name, .int .i64 nd.num, .int .u8 (nd.type : Int), .int .u64 (nd.ref : Int), .slice ka nd.kids.length kc] 70 (0, 0)) := hn4
   obtain ⟨z0, z1, z2, z3, z4, z5, -⟩ := six_cells nd ka kc hn4
   have hm4 := HM0.out.below hb4
   have hml := HM0.out.lt
   have htl := fun q e => (HM0.out.tr.lt q e).2
   obtain ⟨w5, hrun, hA5, hg5⟩ := (((HMC.out.1.below hb4.drew (Nat.le_refl _)).imp (Z' := fun q => q ≠ mb ∧ tv.ownBlock ≠ some q ∧ q < w4.drew.heap.size ∧ q ≠ w.heap.size) (fun q hz => ⟨hz.1, hz.2.1, Nat.lt_of_lt_of_le hz.2.2 hb4.size, by omega⟩))).store (by have := HMC.out.2.1; omega) hid nd ka kc (Sl.of_own ho4.drew) hlen (fun q e => by
    have h1 := ho4.lt q e
    exact ⟨by omega, fun e' => by have := htl q e'; omega, h1.2, by omega⟩)
   have c14 := hm4.drew.read.2.1
   have hHeld : (fun w' : World => w'.cell? ⟨mb, 1, none⟩ = some (.map (some nb)) ∧ w'.cell? ⟨w.heap.size + 1, 0, none⟩ = some (.int .u8 (nd.kind : Int)) ∧ w'.cell? ⟨w.heap.size + 1, 1, none⟩ = some (strV nd.name) ∧ w'.cell? ⟨w.heap.size + 1, 2, none⟩ = some (.int .i64 nd.num) ∧ w'.cell? ⟨w.heap.size + 1, 3, none⟩ = some (.int .u8 (nd.type : Int)) ∧ w'.cell? ⟨w.heap.size + 1, 4, none⟩ = some (.int .u64 (nd.ref : Int)) ∧ w'.cell? ⟨w.heap.size + 1, 5, none⟩ = some (.slice ka nd.kids.length kc)) w4.drew := ⟨c14, z0, z1, z2, z3, z4, z5⟩
   have HP5 := Lib.hid (fun w6 (hf : Fr (fun q => q = w.heap.size) w5 w6) => hm4.drew.put hA5 hg5 (x := w.heap.size) ⟨HM0.out.bel.size, by omega, by have := HMC.out.1.lt; omega, fun e => by have := htl _ e; omega⟩ hf (by have := HMC.out.2.1; split <;> omega) (fun i n hi => by
    unfold putM at hi
    by_cases e : i = id
    ·
     rw [if_pos e] at hi; injection hi with hi; rw [← hi, e, hnd]
    ·
     rw [if_neg e] at hi; exact HMC.out.2.2 i n hi))
   have hnbl : nb < w.heap.size := HMC.out.1.lt
   have hfw5 : Fr (fun q => q = nb) w4.drew w5 := Fr.of_grown hg5 (fun q e => by injection e with e; exact e.symm)
   have hk5 := hfw5.at_ (show w4.drew.heap[w.heap.size]? = _ from hk4) (by omega)
   have hn5 := hfw5.at_ (show w4.drew.heap[w.heap.size + 1]? = _ from hn4) (by omega)
   have HF5 := Lib.hid (show Fr (fun q => q = nb) w w5 from ((Fr.of_below hb4.drew : Fr (fun q => q = nb) w w4.drew)).trans hfw5)
   have HO5 := Lib.hid (show w5.ownsRow w2.heap.size 45 1 (.slice ka nd.kids.length kc) nd.kids.length (nd.kids.map idV) from ownsRow_fr ho4.drew hfw5 (fun q e e' => by have := (ho4.lt q e).1; omega))
   clear hA5 hg5 hfw5 hm4 ho4 hb4 hn4 hk4 c14 z0 z1 z2 z3 z4 z5 HMC HN2 htl
   refine wp_region_two (fun w' : World => w'.cell? ⟨mb, 1, none⟩ = some (.map (some nb)) ∧ w'.cell? ⟨w.heap.size + 1, 0, none⟩ = some (.int .u8 (nd.kind : Int)) ∧ w'.cell? ⟨w.heap.size + 1, 1, none⟩ = some (strV nd.name) ∧ w'.cell? ⟨w.heap.size + 1, 2, none⟩ = some (.int .i64 nd.num) ∧ w'.cell? ⟨w.heap.size + 1, 3, none⟩ = some (.int .u8 (nd.type : Int)) ∧ w'.cell? ⟨w.heap.size + 1, 4, none⟩ = some (.int .u64 (nd.ref : Int)) ∧ w'.cell? ⟨w.heap.size + 1, 5, none⟩ = some (.slice ka nd.kids.length kc)) 6 (by kernel_rfl) ?_
   refine tk 0 ?_ rfl (by kernel_rfl) (fun _ _ _ h => h) ‹_› (by rfl) ?_ ?_
   rotate_left
   · (intro w' hSw; (try dsimp only at hSw); go_simp; try with_reducible rfl)
   try simp only [Act.put, sA, sB, sC, sD, sE, sF]
   refine tk 1 ?_ rfl (by kernel_rfl) (fun _ _ _ h => h) ‹_› (by rfl) ?_ ?_
   rotate_left
   · (intro w' hSw; (try dsimp only at hSw); go_simp; try with_reducible rfl)
   try simp only [Act.put, sA, sB, sC, sD, sE, sF]
   refine tk 2 ?_ rfl (by kernel_rfl) (fun _ _ _ h => h) ‹_› (by rfl) ?_ ?_
   rotate_left
   · (intro w' hSw; (try dsimp only at hSw); go_simp; try with_reducible rfl)
   try simp only [Act.put, sA, sB, sC, sD, sE, sF]
   refine tk 3 ?_ rfl (by kernel_rfl) (fun _ _ _ h => h) ‹_› (by rfl) ?_ ?_
   rotate_left
   · (intro w' hSw; (try dsimp only at hSw); go_simp; try with_reducible rfl)
   try simp only [Act.put, sA, sB, sC, sD, sE, sF]
   refine tk 4 ?_ rfl (by kernel_rfl) (fun _ _ _ h => h) ‹_› (by rfl) ?_ ?_
   rotate_left
   · (intro w' hSw; (try dsimp only at hSw); go_simp; try with_reducible rfl)
   try simp only [Act.put, sA, sB, sC, sD, sE, sF]
   refine tk 5 ?_ rfl (by kernel_rfl) (fun _ _ _ h => h) ‹_› (by rfl) ?_ ?_
   rotate_left
   · (intro w' hSw; (try dsimp only at hSw); go_simp; try with_reducible rfl)
   try simp only [Act.put, sA, sB, sC, sD, sE, sF]
   refine wpAnyT_tail (by kernel_rfl) ?_
   simp only [List.drop_succ_cons, List.drop_zero]
   clear hHeld
   go_upto_region 5 with fail
   obtain ⟨z0, z1, z2, z3, z4, z5, -⟩ := six_cells nd ka kc hn5
   have f5 : ∀ i, w5.frozen? ⟨w.heap.size, i, none⟩ = false := fun i => by simp [World.frozen?, hk5]
   have cc := fun i => cell_of_row w5 w.heap.size i _ _ (0, 0) hk5
   have y0 := cc 0; have y1 := cc 1; have y2 := cc 2; have y3 := cc 3; have y4 := cc 4; have y5 := cc 5
   simp at y0 y1 y2 y3 y4 y5
   clear cc hn5 hk5 hrun
   go_wp2
   subst hnd
   have hfr6 : Fr (fun q => q = w.heap.size) w5 ((((((w5.setCell ⟨w.heap.size, 0, none⟩ (.int .u8 ((C.nd id).kind : Int))).setCell ⟨w.heap.size, 1, none⟩ (strV (C.nd id).name)).setCell ⟨w.heap.size, 2, none⟩ (.int .i64 (C.nd id).num)).setCell ⟨w.heap.size, 3, none⟩ (.int .u8 ((C.nd id).type : Int))).setCell ⟨w.heap.size, 4, none⟩ (.int .u64 ((C.nd id).ref : Int))).setCell ⟨w.heap.size, 5, none⟩ (.slice ka (C.nd id).kids.length kc)) :=
    ((((((Fr.refl (fun q => q = w.heap.size) w5).set (p := ⟨w.heap.size, 0, none⟩) (.inl rfl) _).set (p := ⟨w.heap.size, 1, none⟩) (.inl rfl) _).set (p := ⟨w.heap.size, 2, none⟩) (.inl rfl) _).set (p := ⟨w.heap.size, 3, none⟩) (.inl rfl) _).set (p := ⟨w.heap.size, 4, none⟩) (.inl rfl) _).set (p := ⟨w.heap.size, 5, none⟩) (.inl rfl) _
   have ho6 := ownsRow_fr HO5.out hfr6 (fun q e e' => by have := (HO5.out.lt q e).1; omega)
   exact bodyPost_ret (v := ndV (C.nd id) ka kc) (by simp [results, Tryz.results30, go_sem, y0, y1, y2, y3, y4, y5, f5]) rfl ⟨ka, kc, rfl, HP5.out _ hfr6, HF5.out.then_ hfr6 (fun q hq e => by omega), Sl.of_own ho6, fun _ q e => ⟨by have := (ho6.lt q e).1; have := HM0.out.lt; omega, fun e' => by have h1 := (ho6.lt q e).1; have h2 := (HM0.out.tr.lt q e').2; omega⟩⟩
end Go.Proofs.YtoelmnamlnbdhaaGreatDoor
namespace Go.Proofs.YtoelmnamlnbdhaaGreatDoor
open Go.RowKit
open Hg (RC RS RV KB)
variable {C : RC} {ab mb nb fb n : Nat} {w0 w w' : World} {s s' : RS} {tv tv' : Value} {R : RV}
def ExprRes (C : RC) (ab mb nb fb : Nat) (w0 : World) (tv : Value) (R : RV) (x : Int) (s' : RS) (w : World) (e : Ending) (w' : World) : Prop :=
 e = .returned (i64V x) ∧ St C ab mb nb fb w0 w' s' tv R ∧ MStep mb nb fb w tv w' tv
def ExprC (C : RC) (ab mb nb fb : Nat) (w0 : World) (d : Nat) : Prop :=
 ∀ (id : Nat) (R : RV) (s s' : RS) (x : Int) (tv : Value) (w : World), C.expr R d id s = some (x, s') → St C ab mb nb fb w0 w s tv R →
   Calls Tryz.prog 107 #[.pointer (some ⟨mb, 0, none⟩), .int .u64 (id : Int), .map (some fb)] w (ExprRes C ab mb nb fb w0 tv R x s' w)
theorem St.nobj (h : St C ab mb nb fb w0 w s tv R) : ∃ es ck, w.heap[nb]? = some (.map es ck) := h.m.nobj
theorem St.fobj (h : St C ab mb nb fb w0 w s tv R) : ∃ es ck, w.heap[fb]? = some (.map es ck) := h.f.obj
set_option maxHeartbeats 4000000 in
set_option maxRecDepth 100000 in
theorem pair_rany (d : Nat) (hE : ExprC C ab mb nb fb w0 d) (nd : Hg.Node) (ka : Option Addr) (kc : Nat) (h : St C ab mb nb fb w0 w s tv R) (hk : Keep mb w tv (.slice ka nd.kids.length kc) nd.kids.length (nd.kids.map idV)) (hl : nd.kids.length = 2) (hop : nd.num = 1 ∨ nd.num = 6)
 (x y : Int) (s1 s2 : RS) (h1 : C.expr R d (nd.kids.getD 0 0) s = some (x, s1)) (h2 : C.expr R d (nd.kids.getD 1 0) s1 = some (y, s2)) :
 Calls Tryz.prog 127 #[.pointer (some ⟨mb, 0, none⟩), ndV nd ka kc, .map (some fb)] w (ExprRes C ab mb nb fb w0 tv R (Hg.rEval nd.num x y) s2 w) := by
 have hbA : Below w.heap.size w (w.alloc (.cells #[.int .u8 (nd.kind : Int), strV nd.name, .int .i64 nd.num, .int .u8 (nd.type : Int), .int .u64 (nd.ref : Int), .slice ka nd.kids.length kc] 70)) := (Below.refl _ _).alloc (Nat.le_refl _) _
 have hnA := heap_alloc_new w (.cells #[.int .u8 (nd.kind : Int), strV nd.name, .int .i64 nd.num, .int .u8 (nd.type : Int), .int .u64 (nd.ref : Int), .slice ka nd.kids.length kc] 70)
 have hzA : (w.alloc (.cells #[.int .u8 (nd.kind : Int), strV nd.name, .int .i64 nd.num, .int .u8 (nd.type : Int), .int .u64 (nd.ref : Int), .slice ka nd.kids.length kc] 70)).heap.size = w.heap.size + 1 := by simp
 have hq0 : (nd.num == 12) = false := by rcases hop with e | e <;> simp [e]
 have hq1 : (nd.num == 13) = false := by rcases hop with e | e <;> simp [e]
 have TEV := fun x y W => Lib.hid (rEval_any nd.num hop x y W)
 have HH := Lib.hid h
 have HK := Lib.hid (hk.below hbA)
 have HE := Lib.hid hE
 have H12 := Lib.hid (And.intro h1 h2)
 have HS0 := Lib.hid (h.below hbA)
 have HB0 := Lib.hid hbA
 have h0l : 0 < nd.kids.length := by omega
 generalize hi0 : nd.kids.getD 0 0 = i0 at h1 H12
 generalize hi1 : nd.kids.getD 1 0 = i1 at h2 H12
 have h1l : 1 < nd.kids.length := by omega
 clear h hk hE h1 h2 hl
 go_enter Tryz.func127, Tryz.ntmps127
 go_upto_region 1 with fail
 generalize World.alloc w _ = wA at hbA hnA hzA HK HS0 HB0 ⊢
 obtain ⟨z0, -, z2, -, -, z5, -⟩ := six_cells nd ka kc hnA
 obtain ⟨b, o, rfl, hbl, e0⟩ := HK.out.1.idAt (l := nd.kids) (k := 0) (by omega)
 have hk0 : nd.kids[0] = i0 := by rw [← hi0]; simp [List.getD, h0l]
 rw [hk0, Nat.add_zero] at e0
 have T1 := Lib.hid (HE.out _ R s s1 x tv wA H12.out.1 HS0.out)
 clear hbA hk0 hi0
 go_wp2_with fail
 refine T1.out.mono ?_
 rintro e w1 ⟨rfl, hS1, hs1⟩
 have HK1 := Lib.hid (HK.out.step hs1 HS0.out.nobj HS0.out.fobj)
 have hxl : ∀ q, MD mb nb fb tv q → q < w.heap.size := fun q e => by
  rcases e with e | e | e | e
  ·
   have := HH.out.m.lt; omega
  ·
   have h9 := HH.out.nobj; obtain ⟨es, ck, h9⟩ := h9; have := (Array.getElem?_eq_some_iff.1 h9).1; omega
  ·
   have := HH.out.f.lt; omega
  ·
   exact (HH.out.m.tr.lt q e).2
 have hn1 := hs1.1.at_ hnA (fun e => by have := hxl _ e; omega)
 obtain ⟨-, -, y2, -, -, y5, -⟩ := six_cells nd _ kc hn1
 have HS1 := Lib.hid hS1
 have HM1 := Lib.hid hs1
 have HN1 := Lib.hid hn1
 have HXL := Lib.hid hxl
 obtain ⟨b', o', hbo, hbl1, e1⟩ := HK1.out.1.idAt (l := nd.kids) (k := 1) (by omega)
 have hk1 : nd.kids[1] = i1 := by rw [← hi1]; simp [List.getD, h1l]
 rw [hk1] at e1
 injection hbo with hbo
 injection hbo with hb1 hb2
 subst hb1; subst hb2
 have T2 := Lib.hid (HE.out _ R s1 s2 y tv w1 H12.out.2 hS1)
 clear hS1 hs1 hn1 hxl hk1 hi1 T1 z0 z2 z5 e0 hnA
 go_wp2_with fail
 refine T2.out.mono ?_
 rintro e w2 ⟨rfl, hS2, hs2⟩
 have hn2 := hs2.1.at_ HN1.out (fun e => by
  rcases e with e | e | e | e
  ·
   exact absurd (HXL.out _ (.inl rfl)) (by omega)
  ·
   exact absurd (HXL.out _ (.inr (.inl rfl))) (by omega)
  ·
   exact absurd (HXL.out _ (.inr (.inr (.inl rfl)))) (by omega)
  ·
   exact absurd (HXL.out _ (.inr (.inr (.inr e)))) (by omega))
 obtain ⟨-, -, x2, -, -, -, -⟩ := six_cells nd _ kc hn2
 have HS2 := Lib.hid hS2
 have HM2 := Lib.hid ((MStep.of_below HB0.out).trans (HM1.out.trans hs2))
 clear hS2 hs2 hn2 y2 y5 e1 T2
 go_wp2_with fail
 refine (TEV _ _ _).out.mono ?_
 rintro e w3 ⟨rfl, rfl⟩
 go_wp2
 go_ret
 exact ⟨rfl, HS2.out, HM2.out⟩
set_option maxHeartbeats 4000000 in
set_option maxRecDepth 100000 in
theorem expr_rany (hRB : ∀ id, (C.nd id).ref < idTop) : ∀ d, ExprC C ab mb nb fb w0 d := by
 intro d
 induction d with
 | zero => intro id R s s' x tv w h; cases h
 | succ d ih =>
   intro id R s s' x tv w h hS
   unfold RC.expr at h
   by_cases c1 : s.e ≠ 0 ∨ 18446744073709551616 ≤ id ∨ 1000000 ≤ s.nc
   ·
    rw [if_pos c1] at h; cases h
   rw [if_neg c1] at h
   have he : s.e = 0 := by omega
   have hid : id < idTop := by unfold idTop; omega
   have T := rnode_any hS.m id hid (by omega)
   unfold RNodeRes at T
   have hrb := hRB id
   generalize C.nd id = nd at h T hrb
   have HT := Lib.hid T
   clear T
   have HS := Lib.hid hS
   have IH := Lib.hid ih
   clear ih hS c1
   by_cases k13 : nd.kind = 13
   ·
    rw [if_pos k13] at h
    injection h with h
    injection h with h1 h2
    subst h1; subst h2
    have q : ((nd.kind : Int) == 13) = true := by simp [k13]
    clear k13
    go_enter Tryz.func107, Tryz.ntmps107
    go_wp2_with fail
    refine HT.out.mono ?_
    rintro e w1 ⟨ka, kc, rfl, hm1, hf1, hk1⟩
    go_upto_region 2 with fail
    have hbA : Below w1.heap.size w1 (w1.alloc (.cells #[.int .u8 (nd.kind : Int), strV nd.name, .int .i64 nd.num, .int .u8 (nd.type : Int), .int .u64 (nd.ref : Int), .slice ka nd.kids.length kc] 70)) := (Below.refl _ _).alloc (Nat.le_refl _) _
    have hnA := heap_alloc_new w1 (.cells #[.int .u8 (nd.kind : Int), strV nd.name, .int .i64 nd.num, .int .u8 (nd.type : Int), .int .u64 (nd.ref : Int), .slice ka nd.kids.length kc] 70)
    generalize World.alloc w1 _ = w2 at hbA hnA ⊢
    obtain ⟨z0, z1, z2, z3, z4, z5, -⟩ := six_cells nd ka kc hnA
    have hS2 := (HS.out.node hm1 hf1).below hbA
    have m4 := hS2.m.read.2.2.2.1
    have q4 : ((s.ask.e : Int) != 0) = false := by simp [Hg.RS.ask, he]
    have HS2 := Lib.hid hS2
    have HM2 := Lib.hid (show MStep mb nb fb w tv w2 tv from (MStep.ofN hf1).trans (MStep.of_below hbA))
    have HK2 := Lib.hid (hk1.below hbA)
    clear hm1 hf1 hk1 hbA hnA hS2 HT
    go_wp2
    go_ret
    exact ⟨rfl, HS2.out, HM2.out⟩
   rw [if_neg k13] at h
   have q13 : ((nd.kind : Int) == 13) = false := by simp; omega
   by_cases k15 : nd.kind = 15
   ·
    rw [if_pos k15] at h
    injection h with h
    injection h with h1 h2
    subst h1; subst h2
    have q14 : ((nd.kind : Int) == 14) = false := by simp; omega
    have q15 : ((nd.kind : Int) == 15) = true := by simp [k15]
    clear k13 k15
    go_enter Tryz.func107, Tryz.ntmps107
    go_wp2_with fail
    refine HT.out.mono ?_
    rintro e w1 ⟨ka, kc, rfl, hm1, hf1, hk1⟩
    go_upto_region 2 with fail
    have hbA : Below w1.heap.size w1 (w1.alloc (.cells #[.int .u8 (nd.kind : Int), strV nd.name, .int .i64 nd.num, .int .u8 (nd.type : Int), .int .u64 (nd.ref : Int), .slice ka nd.kids.length kc] 70)) := (Below.refl _ _).alloc (Nat.le_refl _) _
    have hnA := heap_alloc_new w1 (.cells #[.int .u8 (nd.kind : Int), strV nd.name, .int .i64 nd.num, .int .u8 (nd.type : Int), .int .u64 (nd.ref : Int), .slice ka nd.kids.length kc] 70)
    generalize World.alloc w1 _ = w2 at hbA hnA ⊢
    obtain ⟨z0, z1, z2, z3, z4, z5, -⟩ := six_cells nd ka kc hnA
    have hS2 := (HS.out.node hm1 hf1).below hbA
    have m4 := hS2.m.read.2.2.2.1
    have q4 : ((s.ask.e : Int) != 0) = false := by simp [Hg.RS.ask, he]
    have HS2 := Lib.hid hS2
    have HM2 := Lib.hid (show MStep mb nb fb w tv w2 tv from (MStep.ofN hf1).trans (MStep.of_below hbA))
    have HK2 := Lib.hid (hk1.below hbA)
    clear hm1 hf1 hk1 hbA hnA hS2 HT
    have hlk := HS2.out.f.look hrb
    go_wp2
    go_ret
    exact ⟨rfl, HS2.out, HM2.out⟩
   rw [if_neg k15] at h
   by_cases k18 : nd.kind = 18 ∧ (nd.num = 1 ∨ nd.num = 6) ∧ nd.kids.length = 2
   ·
    rw [if_pos k18] at h
    obtain ⟨k18, hop, hl⟩ := k18
    have q14 : ((nd.kind : Int) == 14) = false := by simp; omega
    have q15 : ((nd.kind : Int) == 15) = false := by simp; omega
    have q16 : ((nd.kind : Int) == 16) = false := by simp; omega
    have q17 : ((nd.kind : Int) == 17) = false := by simp; omega
    have q19 : ((nd.kind : Int) == 19) = false := by simp; omega
    have q20 : ((nd.kind : Int) == 20) = false := by simp; omega
    cases h1 : C.expr R d (nd.kids.getD 0 0) s.ask with
    | none => rw [h1] at h; cases h
    | some p =>
      obtain ⟨x1, s1⟩ := p
      rw [h1] at h
      cases h2 : C.expr R d (nd.kids.getD 1 0) s1 with
      | none => rw [Option.bind_some] at h; dsimp only at h; rw [h2] at h; cases h
      | some p =>
        obtain ⟨y1, s2⟩ := p
        rw [Option.bind_some] at h
        dsimp only at h
        rw [h2] at h
        injection h with h
        injection h with h3 h4
        subst h3; subst h4
        have HL := Lib.hid (And.intro h1 (And.intro h2 (And.intro hl hop)))
        clear h1 h2 hl hop k13 k15 k18
        go_enter Tryz.func107, Tryz.ntmps107
        go_wp2_with fail
        refine HT.out.mono ?_
        rintro e w1 ⟨ka, kc, rfl, hm1, hf1, hk1⟩
        go_upto_region 2 with fail
        have hbA : Below w1.heap.size w1 (w1.alloc (.cells #[.int .u8 (nd.kind : Int), strV nd.name, .int .i64 nd.num, .int .u8 (nd.type : Int), .int .u64 (nd.ref : Int), .slice ka nd.kids.length kc] 70)) := (Below.refl _ _).alloc (Nat.le_refl _) _
        have hnA := heap_alloc_new w1 (.cells #[.int .u8 (nd.kind : Int), strV nd.name, .int .i64 nd.num, .int .u8 (nd.type : Int), .int .u64 (nd.ref : Int), .slice ka nd.kids.length kc] 70)
        generalize World.alloc w1 _ = w2 at hbA hnA ⊢
        obtain ⟨z0, z1, z2, z3, z4, z5, -⟩ := six_cells nd ka kc hnA
        have hS2 := (HS.out.node hm1 hf1).below hbA
        have m4 := hS2.m.read.2.2.2.1
        have q4 : ((s.ask.e : Int) != 0) = false := by simp [Hg.RS.ask, he]
        have HS2 := Lib.hid hS2
        have HM2 := Lib.hid (show MStep mb nb fb w tv w2 tv from (MStep.ofN hf1).trans (MStep.of_below hbA))
        have HK2 := Lib.hid (hk1.below hbA)
        clear hm1 hf1 hk1 hbA hnA hS2 HT
        have TP := Lib.hid (pair_rany d IH.out nd ka kc HS2.out HK2.out HL.out.2.2.1 HL.out.2.2.2 x1 y1 s1 s2 HL.out.1 HL.out.2.1)
        go_wp2_with fail
        refine TP.out.mono ?_
        rintro e w3 ⟨rfl, hS3, hs3⟩
        have HS3 := Lib.hid hS3
        have HM3 := Lib.hid (HM2.out.trans hs3)
        clear hS3 hs3 TP
        go_wp2
        go_ret
        exact ⟨rfl, HS3.out, HM3.out⟩
   ·
    rw [if_neg k18] at h; cases h
end Go.Proofs.YtoelmnamlnbdhaaGreatDoor
namespace Hg
theorem expr_keep (C : RC) (R : RV) : ∀ (d id : Nat) (s s' : RS) (x : Int), C.expr R d id s = some (x, s') → s'.e = 0 ∧ s'.used = s.used
 | 0, _, _, _, _, h => by cases h
 | d + 1, id, s, s', x, h => by
   unfold RC.expr at h
   by_cases c1 : s.e ≠ 0 ∨ 18446744073709551616 ≤ id ∨ 1000000 ≤ s.nc
   ·
    rw [if_pos c1] at h; cases h
   rw [if_neg c1] at h
   have he : s.e = 0 := by omega
   by_cases k13 : (C.nd id).kind = 13
   ·
    rw [if_pos k13] at h
    injection h with h
    injection h with h1 h2
    subst h2; exact ⟨he, rfl⟩
   rw [if_neg k13] at h
   by_cases k15 : (C.nd id).kind = 15
   ·
    rw [if_pos k15] at h
    injection h with h
    injection h with h1 h2
    subst h2; exact ⟨he, rfl⟩
   rw [if_neg k15] at h
   by_cases k18 : (C.nd id).kind = 18 ∧ ((C.nd id).num = 1 ∨ (C.nd id).num = 6) ∧ (C.nd id).kids.length = 2
   ·
    rw [if_pos k18] at h
    cases h1 : C.expr R d ((C.nd id).kids.getD 0 0) s.ask with
    | none => rw [h1] at h; cases h
    | some p =>
      obtain ⟨x1, s1⟩ := p
      rw [h1] at h
      cases h2 : C.expr R d ((C.nd id).kids.getD 1 0) s1 with
      | none => rw [Option.bind_some] at h; dsimp only at h; rw [h2] at h; cases h
      | some p =>
        obtain ⟨y1, s2⟩ := p
        rw [Option.bind_some] at h
        dsimp only at h
        rw [h2] at h
        injection h with h
        injection h with h3 h4
        subst h4
        have a1 := expr_keep C R d _ _ _ _ h1
        have a2 := expr_keep C R d _ _ _ _ h2
        exact ⟨a2.1, a2.2.trans a1.2⟩
   ·
    rw [if_neg k18] at h; cases h
end Hg
namespace Go.Proofs.YtoelmnamlnbdhaaGreatDoor
open Go.RowKit
open Hg (RC RS RV KB)
variable {C : RC} {ab mb nb fb n : Nat} {w0 w w' : World} {s s' : RS} {tv tv' : Value} {R : RV}
set_option maxHeartbeats 4000000 in
set_option maxRecDepth 100000 in
theorem St.set (h : St C ab mb nb fb w0 w s tv R) (k : Nat) (x : Int) (hk : k < idTop) (hc : R.c ≤ 1000000) :
 ∃ w', (Instr.mapUpdate 84 (.map (some fb)) (.int .u64 (k : Int)) (i64V x)).run Tryz.prog w = .ok () w' ∧ St C ab mb nb fb w0 w' s tv (R.set k x) ∧ MStep mb nb fb w tv w' tv := by
 obtain ⟨w', hrun, hf', hg⟩ := h.f.put x hk hc
 obtain ⟨es, ck, hm⟩ := h.f.obj
 have hf : Fr (fun q => q = fb) w w' := Fr.of_grown hg (fun q e => by injection e with e; exact e.symm)
 obtain ⟨c, Mc, hn, hcc, hnn⟩ := h.m.nodes
 have hne := h.fne
 refine ⟨w', hrun, ⟨⟨hf.at_ h.m.cell (fun e => hne e.symm), h.m.ar, ⟨hf.os.trans h.m.bel.os, hf.tape.trans h.m.bel.tape, hf.output.trans h.m.bel.output, Nat.le_trans h.m.bel.size hf.size, fun i hi => (hf.block i (Nat.lt_of_lt_of_le hi h.m.bel.size) (fun e => by have := h.lo; omega)).trans (h.m.bel.block i hi)⟩, ownsRow_fr h.m.tr hf (fun q e e' => ?_), ⟨c, Mc, (hn.other hm hg (fun e => h.ne e.symm)).imp (fun q hz => ⟨hz.1, hz.2.1, Nat.lt_of_lt_of_le hz.2.2 hf.size⟩), hcc, hnn⟩, h.m.lo, h.m.tm, h.m.fu, h.m.us⟩, hf', h.ne, h.lo⟩, ⟨hf.imp (fun q _ e => .inr (.inr (.inl e))), fun q e => .inl e⟩⟩
 subst e'
 rcases own_not_map h.m.tr hm with h1 | h1
 ·
  rw [h1] at e; cases e
 ·
  exact h1 e
set_option maxHeartbeats 4000000 in
set_option maxRecDepth 100000 in
theorem St.tell (h : St C ab mb nb fb w0 w s tv R) (o : Obj) (x : Int) {v4 : Value} {w4 : World} (ho : w4.ownsRow w0.heap.size 2 1 v4 (s.trace.length + 1) (s.trace.map i64V ++ [i64V x])) (hg : (w.alloc o).grownBy w4 tv.ownBlock) (hat : v4.ownBlock = tv.ownBlock ∨ v4.ownBlock = some (w.alloc o).heap.size) :
 St C ab mb nb fb w0 (w4.setCell ⟨mb, 6, none⟩ v4) { s with trace := s.trace ++ [x] } v4 R ∧ MStep mb nb fb w tv (w4.setCell ⟨mb, 6, none⟩ v4) v4 := by
 have hf : Fr (fun q => tv.ownBlock = some q) w w4 := (Fr.refl (fun q => tv.ownBlock = some q) w).alloc o |>.step hg (fun q e => .inl e)
 have hf2 : Fr (fun q => tv.ownBlock = some q ∨ q = mb) w (w4.setCell ⟨mb, 6, none⟩ v4) := (hf.imp (D' := fun q => tv.ownBlock = some q ∨ q = mb) (fun q _ e => .inl e)).set (.inl (.inr rfl)) _
 have hown : ∀ q, v4.ownBlock = some q → tv.ownBlock = some q ∨ w.heap.size ≤ q := fun q e => by
  rcases hat with h1 | h1
  ·
   exact .inl (h1 ▸ e)
  ·
   rw [h1] at e; injection e with e; exact .inr (by rw [← e]; simp)
 have hne := h.fne
 obtain ⟨c, Mc, hn, hcc, hnn⟩ := h.m.nodes
 obtain ⟨es, ck, hnm⟩ := h.m.nobj
 obtain ⟨es2, ck2, hfm⟩ := h.f.obj
 have hmap : ∀ m es ck, w.heap[m]? = some (.map es ck) → tv.ownBlock ≠ some m := fun m es ck hm e => by
  rcases own_not_map h.m.tr hm with h1 | h1
  ·
   rw [h1] at e; cases e
  ·
   exact h1 e
 have hmbl := h.m.lt
 have hvm : v4.ownBlock ≠ some mb := fun e => by
  rcases hown mb e with e | e
  ·
   exact h.m.tm e
  ·
   omega
 refine ⟨⟨⟨heap_setCell_same (i := 6) (hf.at_ h.m.cell h.m.tm) v4, h.m.ar, ⟨hf2.os.trans h.m.bel.os, hf2.tape.trans h.m.bel.tape, hf2.output.trans h.m.bel.output, Nat.le_trans h.m.bel.size hf2.size, fun i hi => (hf2.block i (Nat.lt_of_lt_of_le hi h.m.bel.size) ?_).trans (h.m.bel.block i hi)⟩, ?_, ⟨c, Mc, (hn.frr hf2 ?_ ?_).imp ?_, hcc, hnn⟩, h.m.lo, hvm, h.m.fu, h.m.us⟩, h.f.fr hf2 ?_, h.ne, h.lo⟩, ⟨hf2.imp (fun q _ e => by rcases e with e | e; exact .inr (.inr (.inr e)); exact .inl e), hown⟩⟩
 ·
  rintro (e | e)
  ·
   have := (h.m.tr.lt i e).1; omega
  ·
   have := h.m.lo.1; omega
 ·
  have := ownsRow_fr ho ((Fr.refl (fun q => q = mb) w4).set (p := ⟨mb, 6, none⟩) (.inl rfl) v4) (fun q e e' => hvm (e' ▸ e))
  simpa using this
 ·
  rintro (e | e)
  ·
   exact hmap nb es ck hnm e
  ·
   exact h.m.ne e
 ·
  rintro q hz (e | e)
  ·
   exact hz.2.1 e
  ·
   exact hz.1 e
 ·
  intro q hz
  refine ⟨hz.1, fun e => ?_, Nat.lt_of_lt_of_le hz.2.2 hf2.size⟩
  rcases hown q e with e | e
  ·
   exact hz.2.1 e
  ·
   have := hz.2.2; omega
 ·
  rintro (e | e)
  ·
   exact hmap fb es2 ck2 hfm e
  ·
   exact hne e
end Go.Proofs.YtoelmnamlnbdhaaGreatDoor
namespace Go.Proofs.YtoelmnamlnbdhaaGreatDoor
open Go.RowKit
open Hg (RC RS RV KB)
variable {C : RC} {ab mb nb fb n : Nat} {w0 w w' : World} {s s' : RS} {tv tv' : Value} {R : RV}
def StmtRes (C : RC) (ab mb nb fb : Nat) (w0 : World) (tv : Value) (x : Int) (R' : RV) (s' : RS) (w : World) (e : Ending) (w' : World) : Prop :=
 e = .returned (i64V x) ∧ ∃ tv', St C ab mb nb fb w0 w' s' tv' R' ∧ MStep mb nb fb w tv w' tv'
def StmtC (C : RC) (ab mb nb fb : Nat) (w0 : World) (d : Nat) : Prop :=
 ∀ (id : Nat) (R R' : RV) (s s' : RS) (x : Int) (tv : Value) (w : World), C.stmt d id R s = some (x, R', s') → St C ab mb nb fb w0 w s tv R →
   Calls Tryz.prog 70 #[.pointer (some ⟨mb, 0, none⟩), .int .u64 (id : Int), .map (some fb)] w (StmtRes C ab mb nb fb w0 tv x R' s' w)
def BlockC (C : RC) (ab mb nb fb : Nat) (w0 : World) (d : Nat) : Prop :=
 ∀ (id : Nat) (R R' : RV) (s s' : RS) (x : Int) (tv : Value) (w : World), C.block d id R s = some (x, R', s') → St C ab mb nb fb w0 w s tv R →
   Calls Tryz.prog 31 #[.pointer (some ⟨mb, 0, none⟩), .int .u64 (id : Int), .map (some fb)] w (StmtRes C ab mb nb fb w0 tv x R' s' w)
theorem field5 (n : Hg.Node) (ka : Option Addr) (kc : Nat) (W : World) : (Instr.field 70 (ndV n ka kc) 5).run Tryz.prog W = .ok (.slice ka n.kids.length kc) W := by kernel_rfl
def BlkR (C : RC) (ab mb nb fb : Nat) (w0 : World) (tv : Value) (kids : List Nat) (x : Int) (R' : RV) (s' : RS) (d : Nat) (w1 : World) (k : Nat) (p q : Value) (wr : World) : Prop :=
 ∃ (i : Nat) (o : Int) (R : RV) (s : RS) (tv1 : Value), p = i64V o ∧ q = .int .i64 (i : Int) ∧ i ≤ kids.length ∧ k ≤ d ∧ C.stmts k (kids.drop i) o R s = some (x, R', s') ∧ St C ab mb nb fb w0 wr s tv1 R ∧ MStep mb nb fb w1 tv wr tv1
set_option maxHeartbeats 8000000 in
set_option maxRecDepth 100000 in
theorem block_rstep (d : Nat) (ih : ∀ k, k < d → StmtC C ab mb nb fb w0 k) : BlockC C ab mb nb fb w0 d := by
 intro id R R' s s' x tv w h hS
 cases d with
 | zero => simp [RC.block] at h
 | succ d =>
   unfold RC.block at h
   by_cases c1 : 18446744073709551616 ≤ id ∨ 1000000 ≤ s.nc
   ·
    rw [if_pos c1] at h; cases h
   rw [if_neg c1] at h
   have hid : id < idTop := by unfold idTop; omega
   have T := rnode_any hS.m id hid (by omega)
   unfold RNodeRes at T
   have hlen := hS.m.arOk.len id
   rw [show Hg.ndAt C.M id = C.nd id from rfl] at hlen
   generalize C.nd id = nd at h T hlen
   have HT := Lib.hid T
   have HS := Lib.hid hS
   have IH := Lib.hid ih
   have HC := Lib.hid h
   clear T ih hS c1 h
   go_enter Tryz.func31, Tryz.ntmps31
   go_wp2_with fail
   refine HT.out.mono ?_
   rintro e w1 ⟨ka, kc, rfl, hm1, hf1, hk1⟩
   have hS1 := HS.out.node hm1 hf1
   have HS1 := Lib.hid hS1
   have HM1 := Lib.hid (show MStep mb nb fb w tv w1 tv from MStep.ofN hf1)
   have HK1 := Lib.hid hk1
   clear hm1 hf1 hk1 hS1 HT
   have hfld := field5 nd ka kc w1
   go_wp2
   clear hfld
   go_loopg [7, 15] d (fun k p q wr => BlkR C ab mb nb fb w0 tv nd.kids x R' s' d w1 k p q wr)
   case atStart => exact ⟨0, 0, R, s.ask, tv, rfl, rfl, Nat.zero_le _, Nat.le_refl _, HC.out, HS1.out, MStep.refl _ _ _ _ _⟩
   case round =>
    obtain ⟨i, o, R2, s2, tv2, rfl, rfl, hi, hk, hst, hS2, hs2⟩ := hrel
    have m4 := hS2.m.read.2.2.2.1
    have HS2 := Lib.hid hS2
    have HM2 := Lib.hid (HM1.out.trans hs2)
    have HM1r := Lib.hid hs2
    have hz1 := HS1.out.m.lt
    cases gk with
    | zero => simp [RC.stmts] at hst
    | succ gk =>
      by_cases hlt : i < nd.kids.length
      ·
       rw [List.drop_eq_getElem_cons hlt] at hst
       unfold RC.stmts at hst
       obtain ⟨b, o', rfl, hbl, e0⟩ := (HK1.out.step hs2 HS1.out.nobj HS1.out.fobj).1.idAt (l := nd.kids) (k := i) hlt
       by_cases he : s2.e = 0
       ·
        rw [if_neg (by simp [he])] at hst
        cases h1 : C.stmt gk nd.kids[i] R2 s2 with
        | none => rw [h1] at hst; cases hst
        | some p =>
          obtain ⟨o3, R3, s3⟩ := p
          rw [h1] at hst
          have HC3 := Lib.hid (show C.stmts gk (nd.kids.drop (i + 1)) o3 R3 s3 = some (x, R', s') from hst)
          have T3 := Lib.hid (IH.out gk (by omega) nd.kids[i] R2 R3 s2 s3 o3 tv2 wr h1 hS2)
          have q4 : ((s2.e : Int) != 0) = false := by simp [he]
          generalize nd.kids[i] = kd at e0 T3
          clear hst h1 hs2 hS2 he HC
          go_wp2_with fail
          refine T3.out.mono ?_
          rintro e w3 ⟨rfl, tv3, hS3, hs3⟩
          have HS3 := Lib.hid hS3
          have HM3 := Lib.hid (HM1r.out.trans hs3)
          clear hS3 hs3 T3
          go_wp2
          go_roundg gk
          case measure => omega
          case rel => exact ⟨i + 1, o3, R3, s3, tv3, rfl, by go_num, by omega, by omega, HC3.out, HS3.out, HM3.out⟩
       ·
        rw [if_pos he] at hst
        injection hst with hst
        injection hst with h1 hst
        injection hst with h2 h3
        subst h1; subst h2; subst h3
        have q4 : ((s2.e : Int) != 0) = true := by simp; omega
        generalize nd.kids[i] = kd at e0
        clear hs2 hS2 he HC
        go_wp2
        go_ret
        exact ⟨rfl, tv2, HS2.out, HM2.out⟩
      ·
       obtain rfl : i = nd.kids.length := by omega
       rw [List.drop_length] at hst
       unfold RC.stmts at hst
       injection hst with hst
       injection hst with h1 hst
       injection hst with h2 h3
       subst h1; subst h2; subst h3
       clear hs2 hS2 HC
       go_wp2
       go_ret
       exact ⟨rfl, tv2, HS2.out, HM2.out⟩
end Go.Proofs.YtoelmnamlnbdhaaGreatDoor
