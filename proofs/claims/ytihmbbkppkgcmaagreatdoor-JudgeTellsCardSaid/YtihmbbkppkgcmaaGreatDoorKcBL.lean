/-
  Part of a proof: contracts of functions that the claim reaches, and plain lemmas.
-/
import Derived.Test.YtihmbbkppkgcmaaGreatDoorKcBK
import Derived.Test.YtihmbbkppkgcmaaGreatDoorKcAJ
import Derived.Test.YtihmbbkppkgcmaaGreatDoorKcBE
import Derived.Test.YtihmbbkppkgcmaaGreatDoorKcAH
set_option linter.all false
namespace Go.Proofs.YtihmbbkppkgcmaaGreatDoor
open Go.RowKit
@[reducible] def opV (k a b : Nat) (n : List UInt8) : Value := .agg #[.int .u8 (k : Int), .int .u64 (a : Int), .int .u64 (b : Int), strV n]
theorem is_two (k : Nat) (hk : k = 1 ∨ k = 2 ∨ k = 3 ∨ k = 4 ∨ k = 14) (w : World) : Calls Tryz.prog 49 #[.int .i64 288, .int .u8 (k : Int)] w fun e w' => e = .returned (.bool false) ∧ w = w' := by
 rcases hk with rfl | rfl | rfl | rfl | rfl
 all_goals
  go_enter Tryz.func49, Tryz.ntmps49
  go_wp2
  go_ret
  exact ⟨rfl, rfl⟩
theorem is_named (k : Nat) (hk : k = 1 ∨ k = 2 ∨ k = 3 ∨ k = 4 ∨ k = 14) (w : World) : Calls Tryz.prog 49 #[.int .i64 1374, .int .u8 (k : Int)] w fun e w' => e = .returned (.bool (k != 14)) ∧ w = w' := by
 rcases hk with rfl | rfl | rfl | rfl | rfl
 all_goals
  go_enter Tryz.func49, Tryz.ntmps49
  go_wp2
  go_ret
  exact ⟨rfl, rfl⟩
def wantsN (k : Nat) : Nat := if k = 1 then 2 else if k = 2 then 3 else if k = 3 then 4 else if k = 4 then 6 else if k = 14 then 18 else 0
theorem wants_any (k : Nat) (hk : k ≤ 255) (w : World) : Calls Tryz.prog 29 #[.int .u8 (k : Int)] w fun e w' => e = .returned (.int .u8 (wantsN k : Int)) ∧ w = w' := by
 by_cases h1 : k = 1 ∨ k = 2 ∨ k = 3 ∨ k = 4 ∨ k = 14
 ·
  rcases h1 with rfl | rfl | rfl | rfl | rfl
  all_goals
   go_enter Tryz.func29, Tryz.ntmps29
   go_wp2
   go_ret
   exact ⟨rfl, rfl⟩
 ·
  have hw : wantsN k = 0 := by
   simp only [not_or] at h1
   obtain ⟨n1, n2, n3, n4, n5⟩ := h1
   simp [wantsN, n1, n2, n3, n4, n5]
  rw [hw]
  have q1 : ((k : Int) == 1) = false := by simp; omega
  have q2 : ((k : Int) == 2) = false := by simp; omega
  have q3 : ((k : Int) == 3) = false := by simp; omega
  have q4 : ((k : Int) == 4) = false := by simp; omega
  have q5 : ((k : Int) == 14) = false := by simp; omega
  go_enter Tryz.func29, Tryz.ntmps29
  go_wp2
  go_ret
  exact ⟨rfl, rfl⟩
def OpOk (k a : Nat) (n : List UInt8) : Prop := a ≠ 0 ∧ ((k = 1 ∨ k = 2 ∨ k = 3 ∨ k = 4) ∧ n ≠ [] ∧ nameB n = true ∨ k = 14 ∧ n = [])
set_option maxHeartbeats 4000000 in
set_option maxRecDepth 100000 in
theorem right_yes (k a : Nat) (n : List UInt8) (w : World) (h : OpOk k a n) (hl : n.length ≤ 1000000) (hT : TabOk w) : Calls Tryz.prog 30 #[opV k a 0 n] w fun e w' => e = .returned (.bool true) ∧ Below w.heap.size w w' := by
 obtain ⟨ha, h⟩ := h
 have hkk : k = 1 ∨ k = 2 ∨ k = 3 ∨ k = 4 ∨ k = 14 := by omega
 have q1 : decide ((k : Int) < 1) = false := by simp; omega
 have q1' : decide (k < 1) = false := by simp; omega
 have q2 : decide ((14 : Int) < (k : Int)) = false := by simp; omega
 have q2' : decide (14 < k) = false := by simp; omega
 have q3 : ((a : Int) != 0) = true := by simp; omega
 have q4 : ((k : Int) != 10) = true := by simp; omega
 have hbA : Below w.heap.size w (w.alloc (.cells #[.int .u8 (k : Int), .int .u64 (a : Int), .int .u64 0, strV n] 43)) := (Below.refl _ _).alloc (Nat.le_refl _) _
 have hhA := heap_alloc_new w (.cells #[.int .u8 (k : Int), .int .u64 (a : Int), .int .u64 0, strV n] 43)
 have hob : w.heap.size < (w.alloc (.cells #[.int .u8 (k : Int), .int .u64 (a : Int), .int .u64 0, strV n] 43)).heap.size := by simp
 have htA := hT.below hbA hT.lt
 have cc := fun i => cell_of_row _ w.heap.size i _ _ (0, 0) hhA
 have c0 := cc 0; have c1 := cc 1; have c2 := cc 2; have c3 := cc 3
 have HB := Lib.hid (show ∀ W, Below (w.alloc (.cells #[.int .u8 (k : Int), .int .u64 (a : Int), .int .u64 0, strV n] 43)).heap.size (w.alloc (.cells #[.int .u8 (k : Int), .int .u64 (a : Int), .int .u64 0, strV n] 43)) W → Below w.heap.size w W from fun W h => hbA.trans (h.mono hbA.size))
 have HTD := Lib.hid (show TabOk (w.alloc (.cells #[.int .u8 (k : Int), .int .u64 (a : Int), .int .u64 0, strV n] 43)).drew from htA)
 rcases h with ⟨h1, h2, h3⟩ | ⟨rfl, rfl⟩
 ·
  have q5 : (k != 14) = true := by simp; omega
  have q6 : (n != []) = true := by simpa using h2
  have q6' : (n == []) = false := by simpa using h2
  have hkk2 := hkk
  clear hT htA hbA cc hhA h1 h2
  go_enter Tryz.func30, Tryz.ntmps30
  go_upto_region 3 with fail
  generalize World.alloc w _ = WA at c0 c1 c2 c3 HB HTD hob ⊢
  simp at c0 c1 c2 c3
  generalize hobe : w.heap.size = ob at c0 c1 c2 c3 HB hob ⊢
  have HOB := Lib.hid hobe
  clear hobe
  have hHeld : (fun w' => w'.cell? ⟨ob, 0, none⟩ = some (.int .u8 (k : Int)) ∧ w'.cell? ⟨ob, 1, none⟩ = some (.int .u64 (a : Int)) ∧ w'.cell? ⟨ob, 2, none⟩ = some (.int .u64 0) ∧ w'.cell? ⟨ob, 3, none⟩ = some (strV n)) WA.drew := ⟨c0, c1, c2, c3⟩
  refine wp_region_two (fun w' => w'.cell? ⟨ob, 0, none⟩ = some (.int .u8 (k : Int)) ∧ w'.cell? ⟨ob, 1, none⟩ = some (.int .u64 (a : Int)) ∧ w'.cell? ⟨ob, 2, none⟩ = some (.int .u64 0) ∧ w'.cell? ⟨ob, 3, none⟩ = some (strV n)) 35 (by kernel_rfl) ?_
  refine tk 0 ?_ rfl (by kernel_rfl) (fun _ _ _ h => h) ‹_› (by rfl) ?_ ?_
  rotate_left
  · (intro w' hSw; (try dsimp only at hSw); go_simp; try with_reducible rfl)
  try simp only [Act.put, sA, sB, sC, sD, sE, sF]
  refine tk 1 ?_ rfl (by kernel_rfl) (fun _ _ _ h => h) ‹_› (by rfl) ?_ ?_
  rotate_left
  · (intro w' hSw; (try dsimp only at hSw); go_simp; try with_reducible rfl)
  try simp only [Act.put, sA, sB, sC, sD, sE, sF]
  refine tk 2 ?_ rfl (by kernel_rfl) (fun _ _ _ h => h) ‹_› (by rfl) ?_ ?_
  rotate_left
  · (intro w' hSw; (try dsimp only at hSw); go_simp; try with_reducible rfl)
  try simp only [Act.put, sA, sB, sC, sD, sE, sF]
  refine tk 3 ?_ rfl (by kernel_rfl) (fun _ _ _ h => h) ‹_› (by rfl) ?_ ?_
  rotate_left
  · (intro w' hSw; (try dsimp only at hSw); go_simp; try with_reducible rfl)
  try simp only [Act.put, sA, sB, sC, sD, sE, sF]
  refine tk 4 ?_ rfl (by kernel_rfl) (fun _ _ _ h => h) ‹_› (by rfl) ?_ ?_
  rotate_left
  · (intro w' hSw; (try dsimp only at hSw); go_simp; try with_reducible rfl)
  try simp only [Act.put, sA, sB, sC, sD, sE, sF]
  refine tk 5 ?_ rfl (by kernel_rfl) (fun _ _ _ h => h) ‹_› (by rfl) ?_ ?_
  rotate_left
  · (intro w' hSw; (try dsimp only at hSw); go_simp; try with_reducible rfl)
  try simp only [Act.put, sA, sB, sC, sD, sE, sF]
  refine tk 6 ?_ rfl (by kernel_rfl) (fun _ _ _ h => h) ‹_› (by rfl) ?_ ?_
  rotate_left
  · (intro w' hSw; (try dsimp only at hSw); go_simp; try with_reducible rfl)
  try simp only [Act.put, sA, sB, sC, sD, sE, sF]
  refine tk 7 ?_ rfl (by kernel_rfl) (fun _ _ _ h => h) ‹_› (by rfl) ?_ ?_
  rotate_left
  · (intro w' hSw; (try dsimp only at hSw); go_simp; try with_reducible rfl)
  try simp only [Act.put, sA, sB, sC, sD, sE, sF]
  refine tk 8 ?_ rfl (by kernel_rfl) (fun _ _ _ h => h) ‹_› (by rfl) ?_ ?_
  rotate_left
  · (intro w' hSw; (try dsimp only at hSw); go_simp; try with_reducible rfl)
  try simp only [Act.put, sA, sB, sC, sD, sE, sF]
  refine tk 9 ?_ rfl (by kernel_rfl) (fun _ _ _ h => h) ‹_› (by rfl) ?_ ?_
  rotate_left
  · (intro w' hSw; (try dsimp only at hSw); go_simp; try with_reducible rfl)
  try simp only [Act.put, sA, sB, sC, sD, sE, sF]
  refine tk 10 ?_ rfl (by kernel_rfl) (fun _ _ _ h => h) ‹_› (by rfl) ?_ ?_
  rotate_left
  · (intro w' hSw; (try dsimp only at hSw); go_simp; try with_reducible rfl)
  try simp only [Act.put, sA, sB, sC, sD, sE, sF]
  refine tk 11 ?_ rfl (by kernel_rfl) (fun _ _ _ h => h) ‹_› (by rfl) ?_ ?_
  rotate_left
  · (intro w' hSw; (try dsimp only at hSw); go_simp; try with_reducible rfl)
  try simp only [Act.put, sA, sB, sC, sD, sE, sF]
  refine tk 12 ?_ rfl (by kernel_rfl) (fun _ _ _ h => h) ‹_› (by rfl) ?_ ?_
  rotate_left
  · (intro w' hSw; (try dsimp only at hSw); go_simp; try with_reducible rfl)
  try simp only [Act.put, sA, sB, sC, sD, sE, sF]
  refine wpAnyT_one (i := 13) rfl (by kernel_rfl) (fun K hK => ?_)
  go_simp
  refine (is_two k (by omega) _).mono ?_
  rintro e wx ⟨rfl, rfl⟩
  refine hK.out _ _ (hHeld) (fun hHeld => ?_)
  clear hK K
  try simp only [Act.put, sA, sB, sC, sD, sE, sF]
  refine tk 14 ?_ rfl (by kernel_rfl) (fun _ _ _ h => h) ‹_› (by rfl) ?_ ?_
  rotate_left
  · (intro w' hSw; (try dsimp only at hSw); go_simp; try with_reducible rfl)
  try simp only [Act.put, sA, sB, sC, sD, sE, sF]
  refine tk 15 ?_ rfl (by kernel_rfl) (fun _ _ _ h => h) ‹_› (by rfl) ?_ ?_
  rotate_left
  · (intro w' hSw; (try dsimp only at hSw); go_simp; try with_reducible rfl)
  try simp only [Act.put, sA, sB, sC, sD, sE, sF]
  refine tk 16 ?_ rfl (by kernel_rfl) (fun _ _ _ h => h) ‹_› (by rfl) ?_ ?_
  rotate_left
  · (intro w' hSw; (try dsimp only at hSw); go_simp; try with_reducible rfl)
  try simp only [Act.put, sA, sB, sC, sD, sE, sF]
  refine tk 17 ?_ rfl (by kernel_rfl) (fun _ _ _ h => h) ‹_› (by rfl) ?_ ?_
  rotate_left
  · (intro w' hSw; (try dsimp only at hSw); go_simp; try with_reducible rfl)
  try simp only [Act.put, sA, sB, sC, sD, sE, sF]
  refine tk 18 ?_ rfl (by kernel_rfl) (fun _ _ _ h => h) ‹_› (by rfl) ?_ ?_
  rotate_left
  · (intro w' hSw; (try dsimp only at hSw); go_simp; try with_reducible rfl)
  try simp only [Act.put, sA, sB, sC, sD, sE, sF]
  refine tk 19 ?_ rfl (by kernel_rfl) (fun _ _ _ h => h) ‹_› (by rfl) ?_ ?_
  rotate_left
  · (intro w' hSw; (try dsimp only at hSw); go_simp; try with_reducible rfl)
  try simp only [Act.put, sA, sB, sC, sD, sE, sF]
  refine tk 20 ?_ rfl (by kernel_rfl) (fun _ _ _ h => h) ‹_› (by rfl) ?_ ?_
  rotate_left
  · (intro w' hSw; (try dsimp only at hSw); go_simp; try with_reducible rfl)
  try simp only [Act.put, sA, sB, sC, sD, sE, sF]
  refine tk 21 ?_ rfl (by kernel_rfl) (fun _ _ _ h => h) ‹_› (by rfl) ?_ ?_
  rotate_left
  · (intro w' hSw; (try dsimp only at hSw); go_simp; try with_reducible rfl)
  try simp only [Act.put, sA, sB, sC, sD, sE, sF]
  refine wpAnyT_one (i := 22) rfl (by kernel_rfl) (fun K hK => ?_)
  go_simp
  refine (is_named k (by omega) _).mono ?_
  rintro e wx ⟨rfl, rfl⟩
  rw [q5]
  refine hK.out _ _ (hHeld) (fun hHeld => ?_)
  clear hK K
  try simp only [Act.put, sA, sB, sC, sD, sE, sF]
  refine tk 23 ?_ rfl (by kernel_rfl) (fun _ _ _ h => h) ‹_› (by rfl) ?_ ?_
  rotate_left
  · (intro w' hSw; (try dsimp only at hSw); go_simp; try with_reducible rfl)
  try simp only [Act.put, sA, sB, sC, sD, sE, sF]
  refine tk 24 ?_ rfl (by kernel_rfl) (fun _ _ _ h => h) ‹_› (by rfl) ?_ ?_
  rotate_left
  · (intro w' hSw; (try dsimp only at hSw); go_simp; try with_reducible rfl)
  try simp only [Act.put, sA, sB, sC, sD, sE, sF]
  refine tk 25 ?_ rfl (by kernel_rfl) (fun _ _ _ h => h) ‹_› (by rfl) ?_ ?_
  rotate_left
  · (intro w' hSw; (try dsimp only at hSw); go_simp; try with_reducible rfl)
  try simp only [Act.put, sA, sB, sC, sD, sE, sF]
  refine tk 26 ?_ rfl (by kernel_rfl) (fun _ _ _ h => h) ‹_› (by rfl) ?_ ?_
  rotate_left
  · (intro w' hSw; (try dsimp only at hSw); go_simp; try with_reducible rfl)
  try simp only [Act.put, sA, sB, sC, sD, sE, sF]
  refine tk 27 ?_ rfl (by kernel_rfl) (fun _ _ _ h => h) ‹_› (by rfl) ?_ ?_
  rotate_left
  · (intro w' hSw; (try dsimp only at hSw); go_simp; try with_reducible rfl)
  try simp only [Act.put, sA, sB, sC, sD, sE, sF]
  refine tk 28 ?_ rfl (by kernel_rfl) (fun _ _ _ h => h) ‹_› (by rfl) ?_ ?_
  rotate_left
  · (intro w' hSw; (try dsimp only at hSw); go_simp; try with_reducible rfl)
  try simp only [Act.put, sA, sB, sC, sD, sE, sF]
  refine tk 29 ?_ rfl (by kernel_rfl) (fun _ _ _ h => h) ‹_› (by rfl) ?_ ?_
  rotate_left
  · (intro w' hSw; (try dsimp only at hSw); go_simp; try with_reducible rfl)
  try simp only [Act.put, sA, sB, sC, sD, sE, sF]
  refine tk 30 ?_ rfl (by kernel_rfl) (fun _ _ _ h => h) ‹_› (by rfl) ?_ ?_
  rotate_left
  · (intro w' hSw; (try dsimp only at hSw); go_simp; try with_reducible rfl)
  try simp only [Act.put, sA, sB, sC, sD, sE, sF]
  refine tk 31 ?_ rfl (by kernel_rfl) (fun _ _ _ h => h) ‹_› (by rfl) ?_ ?_
  rotate_left
  · (intro w' hSw; (try dsimp only at hSw); go_simp; try with_reducible rfl)
  try simp only [Act.put, sA, sB, sC, sD, sE, sF]
  refine wpAnyT_one (i := 32) rfl (by kernel_rfl) (fun K hK => ?_)
  go_simp
  refine (isName_any n WA.drew (by omega) HTD.out).mono ?_
  rintro e wx ⟨rfl, hbx⟩
  have HBX := Lib.hid hbx
  refine hK.out _ _ (⟨(hbx.cell hob).trans hHeld.1, (hbx.cell hob).trans hHeld.2.1, (hbx.cell hob).trans hHeld.2.2.1, (hbx.cell hob).trans hHeld.2.2.2⟩) (fun hHeld => ?_)
  clear hK K
  try simp only [Act.put, sA, sB, sC, sD, sE, sF]
  refine tk 33 ?_ rfl (by kernel_rfl) (fun _ _ _ h => h) ‹_› (by rfl) ?_ ?_
  rotate_left
  · (intro w' hSw; (try dsimp only at hSw); go_simp; try with_reducible rfl)
  try simp only [Act.put, sA, sB, sC, sD, sE, sF]
  refine tk 34 ?_ rfl (by kernel_rfl) (fun _ _ _ h => h) ‹_› (by rfl) ?_ ?_
  rotate_left
  · (intro w' hSw; (try dsimp only at hSw); go_simp; try with_reducible rfl)
  try simp only [Act.put, sA, sB, sC, sD, sE, sF]
  refine wpAnyT_tail (by kernel_rfl) ?_
  simp only [List.drop_succ_cons, List.drop_zero]
  go_wp2
  go_ret
  exact ⟨rfl, by rw [HOB.out]; exact HB.out _ (((Below.refl _ _).drew).trans HBX.out)⟩
 ·
  clear hT htA hbA cc hhA
  go_enter Tryz.func30, Tryz.ntmps30
  go_upto_region 3 with fail
  generalize World.alloc w _ = WA at c0 c1 c2 c3 HB HTD hob ⊢
  simp at c0 c1 c2 c3
  generalize hobe : w.heap.size = ob at c0 c1 c2 c3 HB hob ⊢
  have HOB := Lib.hid hobe
  clear hobe
  have hHeld : (fun w' => w'.cell? ⟨ob, 0, none⟩ = some (.int .u8 14) ∧ w'.cell? ⟨ob, 1, none⟩ = some (.int .u64 (a : Int)) ∧ w'.cell? ⟨ob, 2, none⟩ = some (.int .u64 0) ∧ w'.cell? ⟨ob, 3, none⟩ = some (strV [])) WA.drew := ⟨c0, c1, c2, c3⟩
  refine wp_region_two (fun w' => w'.cell? ⟨ob, 0, none⟩ = some (.int .u8 14) ∧ w'.cell? ⟨ob, 1, none⟩ = some (.int .u64 (a : Int)) ∧ w'.cell? ⟨ob, 2, none⟩ = some (.int .u64 0) ∧ w'.cell? ⟨ob, 3, none⟩ = some (strV [])) 35 (by kernel_rfl) ?_
  refine tk 0 ?_ rfl (by kernel_rfl) (fun _ _ _ h => h) ‹_› (by rfl) ?_ ?_
  rotate_left
  · (intro w' hSw; (try dsimp only at hSw); go_simp; try with_reducible rfl)
  try simp only [Act.put, sA, sB, sC, sD, sE, sF]
  refine tk 1 ?_ rfl (by kernel_rfl) (fun _ _ _ h => h) ‹_› (by rfl) ?_ ?_
  rotate_left
  · (intro w' hSw; (try dsimp only at hSw); go_simp; try with_reducible rfl)
  try simp only [Act.put, sA, sB, sC, sD, sE, sF]
  refine tk 2 ?_ rfl (by kernel_rfl) (fun _ _ _ h => h) ‹_› (by rfl) ?_ ?_
  rotate_left
  · (intro w' hSw; (try dsimp only at hSw); go_simp; try with_reducible rfl)
  try simp only [Act.put, sA, sB, sC, sD, sE, sF]
  refine tk 3 ?_ rfl (by kernel_rfl) (fun _ _ _ h => h) ‹_› (by rfl) ?_ ?_
  rotate_left
  · (intro w' hSw; (try dsimp only at hSw); go_simp; try with_reducible rfl)
  try simp only [Act.put, sA, sB, sC, sD, sE, sF]
  refine tk 4 ?_ rfl (by kernel_rfl) (fun _ _ _ h => h) ‹_› (by rfl) ?_ ?_
  rotate_left
  · (intro w' hSw; (try dsimp only at hSw); go_simp; try with_reducible rfl)
  try simp only [Act.put, sA, sB, sC, sD, sE, sF]
  refine tk 5 ?_ rfl (by kernel_rfl) (fun _ _ _ h => h) ‹_› (by rfl) ?_ ?_
  rotate_left
  · (intro w' hSw; (try dsimp only at hSw); go_simp; try with_reducible rfl)
  try simp only [Act.put, sA, sB, sC, sD, sE, sF]
  refine tk 6 ?_ rfl (by kernel_rfl) (fun _ _ _ h => h) ‹_› (by rfl) ?_ ?_
  rotate_left
  · (intro w' hSw; (try dsimp only at hSw); go_simp; try with_reducible rfl)
  try simp only [Act.put, sA, sB, sC, sD, sE, sF]
  refine tk 7 ?_ rfl (by kernel_rfl) (fun _ _ _ h => h) ‹_› (by rfl) ?_ ?_
  rotate_left
  · (intro w' hSw; (try dsimp only at hSw); go_simp; try with_reducible rfl)
  try simp only [Act.put, sA, sB, sC, sD, sE, sF]
  refine tk 8 ?_ rfl (by kernel_rfl) (fun _ _ _ h => h) ‹_› (by rfl) ?_ ?_
  rotate_left
  · (intro w' hSw; (try dsimp only at hSw); go_simp; try with_reducible rfl)
  try simp only [Act.put, sA, sB, sC, sD, sE, sF]
  refine tk 9 ?_ rfl (by kernel_rfl) (fun _ _ _ h => h) ‹_› (by rfl) ?_ ?_
  rotate_left
  · (intro w' hSw; (try dsimp only at hSw); go_simp; try with_reducible rfl)
  try simp only [Act.put, sA, sB, sC, sD, sE, sF]
  refine tk 10 ?_ rfl (by kernel_rfl) (fun _ _ _ h => h) ‹_› (by rfl) ?_ ?_
  rotate_left
  · (intro w' hSw; (try dsimp only at hSw); go_simp; try with_reducible rfl)
  try simp only [Act.put, sA, sB, sC, sD, sE, sF]
  refine tk 11 ?_ rfl (by kernel_rfl) (fun _ _ _ h => h) ‹_› (by rfl) ?_ ?_
  rotate_left
  · (intro w' hSw; (try dsimp only at hSw); go_simp; try with_reducible rfl)
  try simp only [Act.put, sA, sB, sC, sD, sE, sF]
  refine tk 12 ?_ rfl (by kernel_rfl) (fun _ _ _ h => h) ‹_› (by rfl) ?_ ?_
  rotate_left
  · (intro w' hSw; (try dsimp only at hSw); go_simp; try with_reducible rfl)
  try simp only [Act.put, sA, sB, sC, sD, sE, sF]
  refine wpAnyT_one (i := 13) rfl (by kernel_rfl) (fun K hK => ?_)
  go_simp
  refine (is_two 14 (by omega) _).mono ?_
  rintro e wx ⟨rfl, rfl⟩
  refine hK.out _ _ (hHeld) (fun hHeld => ?_)
  clear hK K
  try simp only [Act.put, sA, sB, sC, sD, sE, sF]
  refine tk 14 ?_ rfl (by kernel_rfl) (fun _ _ _ h => h) ‹_› (by rfl) ?_ ?_
  rotate_left
  · (intro w' hSw; (try dsimp only at hSw); go_simp; try with_reducible rfl)
  try simp only [Act.put, sA, sB, sC, sD, sE, sF]
  refine tk 15 ?_ rfl (by kernel_rfl) (fun _ _ _ h => h) ‹_› (by rfl) ?_ ?_
  rotate_left
  · (intro w' hSw; (try dsimp only at hSw); go_simp; try with_reducible rfl)
  try simp only [Act.put, sA, sB, sC, sD, sE, sF]
  refine tk 16 ?_ rfl (by kernel_rfl) (fun _ _ _ h => h) ‹_› (by rfl) ?_ ?_
  rotate_left
  · (intro w' hSw; (try dsimp only at hSw); go_simp; try with_reducible rfl)
  try simp only [Act.put, sA, sB, sC, sD, sE, sF]
  refine tk 17 ?_ rfl (by kernel_rfl) (fun _ _ _ h => h) ‹_› (by rfl) ?_ ?_
  rotate_left
  · (intro w' hSw; (try dsimp only at hSw); go_simp; try with_reducible rfl)
  try simp only [Act.put, sA, sB, sC, sD, sE, sF]
  refine tk 18 ?_ rfl (by kernel_rfl) (fun _ _ _ h => h) ‹_› (by rfl) ?_ ?_
  rotate_left
  · (intro w' hSw; (try dsimp only at hSw); go_simp; try with_reducible rfl)
  try simp only [Act.put, sA, sB, sC, sD, sE, sF]
  refine tk 19 ?_ rfl (by kernel_rfl) (fun _ _ _ h => h) ‹_› (by rfl) ?_ ?_
  rotate_left
  · (intro w' hSw; (try dsimp only at hSw); go_simp; try with_reducible rfl)
  try simp only [Act.put, sA, sB, sC, sD, sE, sF]
  refine tk 20 ?_ rfl (by kernel_rfl) (fun _ _ _ h => h) ‹_› (by rfl) ?_ ?_
  rotate_left
  · (intro w' hSw; (try dsimp only at hSw); go_simp; try with_reducible rfl)
  try simp only [Act.put, sA, sB, sC, sD, sE, sF]
  refine tk 21 ?_ rfl (by kernel_rfl) (fun _ _ _ h => h) ‹_› (by rfl) ?_ ?_
  rotate_left
  · (intro w' hSw; (try dsimp only at hSw); go_simp; try with_reducible rfl)
  try simp only [Act.put, sA, sB, sC, sD, sE, sF]
  refine wpAnyT_one (i := 22) rfl (by kernel_rfl) (fun K hK => ?_)
  go_simp
  refine (is_named 14 (by omega) _).mono ?_
  rintro e wx ⟨rfl, rfl⟩
  refine hK.out _ _ (hHeld) (fun hHeld => ?_)
  clear hK K
  try simp only [Act.put, sA, sB, sC, sD, sE, sF]
  refine tk 23 ?_ rfl (by kernel_rfl) (fun _ _ _ h => h) ‹_› (by rfl) ?_ ?_
  rotate_left
  · (intro w' hSw; (try dsimp only at hSw); go_simp; try with_reducible rfl)
  try simp only [Act.put, sA, sB, sC, sD, sE, sF]
  refine tk 24 ?_ rfl (by kernel_rfl) (fun _ _ _ h => h) ‹_› (by rfl) ?_ ?_
  rotate_left
  · (intro w' hSw; (try dsimp only at hSw); go_simp; try with_reducible rfl)
  try simp only [Act.put, sA, sB, sC, sD, sE, sF]
  refine tk 25 ?_ rfl (by kernel_rfl) (fun _ _ _ h => h) ‹_› (by rfl) ?_ ?_
  rotate_left
  · (intro w' hSw; (try dsimp only at hSw); go_simp; try with_reducible rfl)
  try simp only [Act.put, sA, sB, sC, sD, sE, sF]
  refine tk 26 ?_ rfl (by kernel_rfl) (fun _ _ _ h => h) ‹_› (by rfl) ?_ ?_
  rotate_left
  · (intro w' hSw; (try dsimp only at hSw); go_simp; try with_reducible rfl)
  try simp only [Act.put, sA, sB, sC, sD, sE, sF]
  refine tk 27 ?_ rfl (by kernel_rfl) (fun _ _ _ h => h) ‹_› (by rfl) ?_ ?_
  rotate_left
  · (intro w' hSw; (try dsimp only at hSw); go_simp; try with_reducible rfl)
  try simp only [Act.put, sA, sB, sC, sD, sE, sF]
  refine tk 28 ?_ rfl (by kernel_rfl) (fun _ _ _ h => h) ‹_› (by rfl) ?_ ?_
  rotate_left
  · (intro w' hSw; (try dsimp only at hSw); go_simp; try with_reducible rfl)
  try simp only [Act.put, sA, sB, sC, sD, sE, sF]
  refine tk 29 ?_ rfl (by kernel_rfl) (fun _ _ _ h => h) ‹_› (by rfl) ?_ ?_
  rotate_left
  · (intro w' hSw; (try dsimp only at hSw); go_simp; try with_reducible rfl)
  try simp only [Act.put, sA, sB, sC, sD, sE, sF]
  refine wpAnyT_take (i := 30) rfl (by kernel_rfl) (fun _ _ _ h => h) (by assumption) (Or.inr ⟨by rfl, rfl⟩) ?_
  try simp only [Act.put, sA, sB, sC, sD, sE, sF]
  refine wpAnyT_take (i := 31) rfl (by kernel_rfl) (fun _ _ _ h => h) (by assumption) (Or.inr ⟨by rfl, rfl⟩) ?_
  try simp only [Act.put, sA, sB, sC, sD, sE, sF]
  refine wpAnyT_take (i := 32) rfl (by kernel_rfl) (fun _ _ _ h => h) (by assumption) (Or.inr ⟨by rfl, rfl⟩) ?_
  try simp only [Act.put, sA, sB, sC, sD, sE, sF]
  refine tk 33 ?_ rfl (by kernel_rfl) (fun _ _ _ h => h) ‹_› (by rfl) ?_ ?_
  rotate_left
  · (intro w' hSw; (try dsimp only at hSw); go_simp; try with_reducible rfl)
  try simp only [Act.put, sA, sB, sC, sD, sE, sF]
  refine tk 34 ?_ rfl (by kernel_rfl) (fun _ _ _ h => h) ‹_› (by rfl) ?_ ?_
  rotate_left
  · (intro w' hSw; (try dsimp only at hSw); go_simp; try with_reducible rfl)
  try simp only [Act.put, sA, sB, sC, sD, sE, sF]
  refine wpAnyT_tail (by kernel_rfl) ?_
  simp only [List.drop_succ_cons, List.drop_zero]
  go_wp2
  go_ret
  exact ⟨rfl, by rw [HOB.out]; exact HB.out _ ((Below.refl _ _).drew)⟩
end Go.Proofs.YtihmbbkppkgcmaaGreatDoor
namespace Go.Proofs.YtihmbbkppkgcmaaGreatDoor
open Go.RowKit
set_option maxHeartbeats 800000 in
theorem name14_any (s : List UInt8) (w : World) (hl : s.length ≤ 1000000000) :
 Calls Tryz.prog 28 #[.string ⟨s.toArray⟩] w fun e w' => e = .returned (.bool (nameB s)) ∧ Below w.heap.size w w' := by
 have TW := Lib.hid (words_any w)
 have TN := Lib.hid (fun W => name8_any s hl W)
 have HL := Lib.hid (show Hg.words.length = 14 from rfl)
 have HNB := Lib.hid (show nameB s = (Hg.r8name s && !Hg.inL Hg.words s) from rfl)
 generalize nameB s = nb at HNB ⊢
 generalize Hg.words = xs at TW HL HNB
 generalize Hg.r8name s = nr at TN HNB
 go_enter Tryz.func28, Tryz.ntmps28
 go_wp2_with fail
 refine TW.out.mono ?_
 rintro e w1 ⟨v, rfl, hx, hb⟩
 obtain ⟨a, c, rfl⟩ := hx.form
 have HX := Lib.hid hx
 have HB := Lib.hid hb
 clear hx hb TW
 go_wp2
 go_loop [7] (fun i => ∃ k : Nat, k ≤ 14 ∧ i = .int .i64 k ∧ ∀ j, j < k → (hj : j < xs.length) → xs[j] ≠ s) (fun i => 14 - (intOf i).toNat)
 case atStart => exact ⟨0, by omega, rfl, fun j hj => by omega⟩
 case round =>
  obtain ⟨k, hk, rfl, hno⟩ := hrel
  have HN := Lib.hid hno
  clear hno
  by_cases hlt : k < 14
  ·
   have hlt' : k < xs.length := by rw [HL.out]; exact hlt
   have HX' := HX.out
   rw [← HL.out] at HX'
   obtain ⟨b, o, rfl, _, hc⟩ := HX'.strAt hlt'
   clear HX'
   by_cases hid : xs[k] = s
   ·
    have hq : (xs[k] == s) = true := by simp [hid]
    have hfin := Lib.hid (inL_hit xs s k hlt' hid)
    clear hid
    go_wp2
    go_ret
    exact ⟨ret_bool (by rw [HNB.out, hfin.out]; simp), HB.out⟩
   ·
    have hq : (xs[k] == s) = false := by simp [hid]
    have HI := Lib.hid hid
    clear hid
    go_wp2
    go_round
    case rel => exact ⟨k + 1, by omega, by go_num, fun j hj hj2 => by
     by_cases e : j = k
     ·
      subst e; exact HI.out
     ·
      exact HN.out j (by omega) hj2⟩
    case measure => simp [intOf]; omega
  ·
   obtain rfl : k = 14 := by omega
   have hfin := Lib.hid (inL_miss xs s fun j hj => HN.out j (by have := HL.out; omega) hj)
   go_wp2_with fail
   refine (TN.out w1).mono ?_
   rintro e w2 ⟨rfl, rfl⟩
   go_wp2
   go_ret
   exact ⟨ret_bool (by rw [HNB.out, hfin.out]; simp), HB.out⟩
end Go.Proofs.YtihmbbkppkgcmaaGreatDoor
namespace Go.Proofs.YtihmbbkppkgcmaaGreatDoor
open Go.RowKit
set_option maxHeartbeats 4000000 in
set_option maxRecDepth 100000 in
theorem plan_any (x : List Hg.Row) (v : Value) (k a : Nat) (nm : List UInt8) (raw : Bool) (w : World) (hk : k ≤ 255) (ha : a ≤ 65535) (hn : nm.length ≤ 1000000000000000)
 (hx : RowsAt w w.heap.size v x) (hxl : x.length ≤ 20000) (hid : ∀ r ∈ x, r.id ≠ 0) :
 Calls Tryz.prog 11 #[v, .agg #[.int .u8 (k : Int), .int .u16 (a : Int), strV nm, .bool raw]] w fun e w' =>
  ∃ κ α n, e = .returned (opV κ α 0 n) ∧ OpOk κ α n ∧ n.length ≤ 20 ∧ (α = 1 ∨ ∃ r ∈ x, r.id = α) ∧ Below w.heap.size w w' := by
 have TT := Lib.hid (fun W => text1_any nm 20 hn (by omega) W)
 have hl6 : (nm.take 20).length ≤ 20 := by simp; omega
 generalize hs6 : nm.take 20 = s6 at TT hl6
 have HL6 := Lib.hid hl6
 obtain ⟨vb, vc, rfl⟩ := hx.form
 have HX := Lib.hid hx
 clear hs6 hl6 hx hn
 go_enter Tryz.func11, Tryz.ntmps11
 have h5 : k % 5 = 0 ∨ k % 5 = 1 ∨ k % 5 = 2 ∨ k % 5 = 3 ∨ k % 5 = 4 := by omega
 have hq : (k : Int).tmod 5 = ((k % 5 : Nat) : Int) := by rw [Int.tmod_eq_emod_of_nonneg (by omega)]; omega
 go_upto_region 1 with fail
 have hb2 : Below w.heap.size w ((w.alloc (.cells #[.int .u8 (k : Int), .int .u16 (a : Int), strV nm, .bool raw] 41)).alloc (.cells #[.int .u8 0, .int .u64 0, .int .u64 0, strV []] 43)) := ((Below.refl _ _).alloc (Nat.le_refl _) _).alloc (by simp) _
 have hh1 := heap_alloc2_old w (.cells #[.int .u8 (k : Int), .int .u16 (a : Int), strV nm, .bool raw] 41) (.cells #[.int .u8 0, .int .u64 0, .int .u64 0, strV []] 43)
 have hh2 := heap_alloc2_new w (.cells #[.int .u8 (k : Int), .int .u16 (a : Int), strV nm, .bool raw] 41) (.cells #[.int .u8 0, .int .u64 0, .int .u64 0, strV []] 43)
 have hz2 : ((w.alloc (.cells #[.int .u8 (k : Int), .int .u16 (a : Int), strV nm, .bool raw] 41)).alloc (.cells #[.int .u8 0, .int .u64 0, .int .u64 0, strV []] 43)).heap.size = w.heap.size + 2 := by simp
 have HB2 := Lib.hid hb2
 have HX2 := Lib.hid (HX.out.below hb2 (Nat.le_refl _))
 generalize World.alloc (World.alloc w _) _ = W2 at hb2 hh1 hh2 hz2 HB2 HX2 ⊢
 generalize hpb : w.heap.size = pb at hb2 hh1 hh2 hz2 HB2 HX2 ⊢
 have HPB := Lib.hid hpb
 clear hpb
 have HZ2 := Lib.hid hz2
 have HH1 := Lib.hid hh1
 have HH2 := Lib.hid hh2
 have k0 := cell_of_row W2 pb 0 _ _ (0, 0) hh1
 simp at k0
 have hlt0 : pb < W2.heap.size := by omega
 clear hb2 hh1 hh2 hz2
 go_cut [5] from 11 (fun v5 wx => ∃ κ : Nat, (κ = 1 ∨ κ = 2 ∨ κ = 3 ∨ κ = 4 ∨ κ = 14) ∧ v5 = .int .u8 (κ : Int) ∧ Below W2.heap.size W2 wx)
 case first =>
  rcases h5 with h | h | h | h | h
  all_goals
   rw [h] at hq
   go_wp2
   go_meet
  case rel => exact ⟨1, by omega, rfl, (Below.refl _ _).alloc (Nat.le_refl _) _⟩
  case rel => exact ⟨2, by omega, rfl, (Below.refl _ _).alloc (Nat.le_refl _) _⟩
  case rel => exact ⟨3, by omega, rfl, (Below.refl _ _).alloc (Nat.le_refl _) _⟩
  case rel => exact ⟨4, by omega, rfl, (Below.refl _ _).alloc (Nat.le_refl _) _⟩
  case rel => exact ⟨14, by omega, rfl, (Below.refl _ _).alloc (Nat.le_refl _) _⟩
 case rest =>
  obtain ⟨κ, hκ, rfl, hb3⟩ := hcut
  have k0' := (hb3.cell hlt0).trans k0
  have HB3 := Lib.hid hb3
  have hltc : pb < wc.heap.size := Nat.lt_of_lt_of_le hlt0 hb3.size
  clear hb3
  go_upto_region 2 with fail
  go_cut [6] from 11 (fun v6 wx => ∃ t : Nat, v6 = .int .u8 (t : Int) ∧ Below W2.heap.size W2 wx)
  case first =>
   rcases h5 with h | h | h | h | h
   all_goals
    rw [h] at hq
    go_wp2
    go_meet
   case rel => exact ⟨2, rfl, HB3.out.alloc HB3.out.size _⟩
   case rel => exact ⟨3, rfl, HB3.out.alloc HB3.out.size _⟩
   case rel => exact ⟨4, rfl, HB3.out.alloc HB3.out.size _⟩
   case rel => exact ⟨6, rfl, HB3.out.alloc HB3.out.size _⟩
   case rel => exact ⟨18, rfl, HB3.out.alloc HB3.out.size _⟩
  case rest =>
   obtain ⟨t, rfl, hb4⟩ := hcut
   have k0'' := (hb4.cell hlt0).trans k0
   have k2'' : wc.cell? ⟨pb, 2, none⟩ = some (strV nm) := by
    have := cell_of_row wc pb 2 _ _ (0, 0) ((hb4.block pb hlt0).trans HH1.out)
    simpa using this
   have HB4 := Lib.hid hb4
   have hltd : pb < wc.heap.size := Nat.lt_of_lt_of_le hlt0 hb4.size
   clear k0 k0' hb4 hltc
   go_wp2_with fail
   refine (TT.out wc).mono ?_
   rintro e w1 ⟨rfl, rfl⟩
   go_upto_block 0 with fail
   have hbo : Below wc.heap.size wc (wc.alloc (.cells #[.int .u8 (κ : Int), .int .u64 1, .int .u64 0, strV s6] 43)) := (Below.refl _ _).alloc (Nat.le_refl _) _
   have hho := heap_alloc_new wc (.cells #[.int .u8 (κ : Int), .int .u64 1, .int .u64 0, strV s6] 43)
   have hzo : (wc.alloc (.cells #[.int .u8 (κ : Int), .int .u64 1, .int .u64 0, strV s6] 43)).heap.size = wc.heap.size + 1 := by simp
   have hob : pb + 2 ≤ wc.heap.size := by have := HB4.out.size; have := HZ2.out; omega
   have hx4 := (HX2.out.below (HB4.out.trans (hbo.mono HB4.out.size)) (by omega))
   have hp4 := (hbo.block pb (by omega)).trans ((HB4.out.block pb hlt0).trans HH1.out)
   have hr4 := (hbo.block (pb + 1) (by omega)).trans ((HB4.out.block (pb + 1) (by have := HZ2.out; omega)).trans HH2.out)
   have hw4 := HB2.out.trans ((HB4.out.trans (hbo.mono HB4.out.size)).mono (by omega))
   generalize World.alloc wc _ = W4 at hbo hho hzo hx4 hp4 hr4 hw4 ⊢
   generalize wc.heap.size = ob at hbo hho hzo hob ⊢
   have HX4 := Lib.hid hx4
   have HP4 := Lib.hid hp4
   have HR4 := Lib.hid hr4
   have HO4 := Lib.hid hho
   have HW4 := Lib.hid hw4
   have HZ4 := Lib.hid hzo
   clear hbo hho hzo hx4 hp4 hr4 hw4 k0'' k2'' hltd
   go_cut [8] from 30 (fun v8 wx => ∃ L : List Nat, Below W4.heap.size W4 wx ∧ wx.ownsRow W4.heap.size 28 1 v8 L.length (L.map idV) ∧ L.length ≤ 20000 ∧ ∀ i ∈ L, ∃ r ∈ x, r.id = i)
   case first =>
    obtain ⟨j0, hj, hj0, hj1, hj2⟩ := info_parts idInfo
    go_wp2_with fail
    go_loopw [8, 30] (fun v8 p wr => ∃ (i : Nat) (L : List Nat), p = .int .i64 (i : Int) ∧ i ≤ x.length ∧ Below W4.heap.size W4 wr ∧ wr.ownsRow W4.heap.size 28 1 v8 L.length (L.map idV) ∧ L.length ≤ i ∧ ∀ i ∈ L, ∃ r ∈ x, r.id = i) (fun _ p wr => x.length - (intOf p).toNat)
    case atStart => exact ⟨0, [], rfl, Nat.zero_le _, Below.refl _ _, by simpa using World.ownsRow_nil _ _ _ _, by simp, by simp⟩
    case round =>
     obtain ⟨i, L, rfl, hi, hb, hown, hLi, hL⟩ := hrel
     have HB := Lib.hid hb
     have HL := Lib.hid hL
     by_cases hlt : i < x.length
     ·
      obtain ⟨r, hr⟩ : ∃ r, x[i]? = some r := ⟨_, List.getElem?_eq_getElem hlt⟩
      have hmem : r ∈ x := List.mem_of_getElem? hr
      obtain ⟨b, o, ka, kc, rfl, hbl, hks, r0, r1, r2, r3, r4, r5, r6⟩ := (HX4.out.below hb (by have := HZ4.out; omega)).at_ hr
      have HM := Lib.hid hmem
      clear hr hmem hL hks
      go_upto_region 8 with fail
      have hpq := (hb.block pb (by have := HZ4.out; omega)).trans HP4.out
      have hbN : Below wr.heap.size wr (wr.alloc (.cells #[.int .u64 (r.id : Int), .int .u8 (r.node.kind : Int), strV r.node.name, .int .i64 r.node.num, .int .u8 (r.node.type : Int), .int .u64 (r.node.ref : Int), .slice ka r.node.kids.length kc] 33)) := (Below.refl _ _).alloc (Nat.le_refl _) _
      have hhN := heap_alloc_new wr (.cells #[.int .u64 (r.id : Int), .int .u8 (r.node.kind : Int), strV r.node.name, .int .i64 r.node.num, .int .u8 (r.node.type : Int), .int .u64 (r.node.ref : Int), .slice ka r.node.kids.length kc] 33)
      have hzN : (wr.alloc (.cells #[.int .u64 (r.id : Int), .int .u8 (r.node.kind : Int), strV r.node.name, .int .i64 r.node.num, .int .u8 (r.node.type : Int), .int .u64 (r.node.ref : Int), .slice ka r.node.kids.length kc] 33)).heap.size = wr.heap.size + 1 := by simp
      have hownN := own_below hown hbN (Nat.le_refl _)
      have HBN := Lib.hid (hb.trans (hbN.mono hb.size))
      have hpN := (hbN.block pb (by have := HZ4.out; have := hb.size; omega)).trans hpq
      have HSZ := Lib.hid hb.size
      clear r0 r1 r2 r3 r4 r5 r6 hbN hpq hown hb
      generalize World.alloc wr _ = WN at hhN hzN hownN HBN hpN ⊢
      generalize wr.heap.size = nb at hhN hzN HSZ ⊢
      have n0 := cell_of_row WN nb 0 _ _ (0, 0) hhN
      have n1 := cell_of_row WN nb 1 _ _ (0, 0) hhN
      have p3 := cell_of_row WN pb 3 _ _ (0, 0) hpN
      simp at n0 n1 p3
      have hnb : nb < WN.heap.size := by omega
      have HZN := Lib.hid hzN
      have HON := Lib.hid hownN
      clear hhN hzN hpN hownN
      have hq2 : ∃ bb : Bool, ((r.node.kind : Int) == (t : Int)) = bb := ⟨_, rfl⟩
      obtain ⟨bb, hq2⟩ := hq2
      cases raw with
      | true =>
        go_wp2_with (at_builtin; refine wpList_append_own_at _ rfl (.tmp 43) (.tmp 46) _ rfl W4.heap.size 28 j0 _ 1 8 Tryz.underlying29 hj hj0 hj1 hj2 rfl (by decide) _ _ _ rfl (HON.out.alloc _) ⟨_, 0, none⟩ 1 1 [idV r.id] rfl rfl (cells_new _ _ _) ?_ ?_ ?_ ?_ ?_)
        ·
         exact ids_one [r.id]
        ·
         unfold maxLen; omega
        ·
         omega
        ·
         have := HSZ.out; have := HZN.out; simp; omega
        intro v2 w2 hown2 hg2 _ _
        have hbz : W4.heap.size ≤ WN.heap.size := HBN.out.size
        have hb2 : Below W4.heap.size W4 w2 := (HBN.out.alloc hbz _).grown hg2 (by simp; omega) (fun q hq => (HON.out.lt q hq).1)
        have HO2 := Lib.hid hown2
        have HB2 := Lib.hid hb2
        clear hown2 hb2 hg2
        go_wp2
        go_roundw
        case rel =>
         refine ⟨i + 1, L ++ [r.id], by go_num, by omega, HB2.out, ?_, by simp; omega, fun j hj => ?_⟩
         ·
          rw [List.map_append, List.length_append]
          simpa using HO2.out
         ·
          rcases List.mem_append.1 hj with h | h
          ·
           exact HL.out j h
          ·
           rw [List.mem_singleton] at h
           exact ⟨r, HM.out, h.symm⟩
        case measure => simp [intOf]; omega
      | false =>
        cases bb with
        | true =>
          go_wp2_with (at_builtin; refine wpList_append_own_at _ rfl (.tmp 43) (.tmp 46) _ rfl W4.heap.size 28 j0 _ 1 8 Tryz.underlying29 hj hj0 hj1 hj2 rfl (by decide) _ _ _ rfl (HON.out.alloc _) ⟨_, 0, none⟩ 1 1 [idV r.id] rfl rfl (cells_new _ _ _) ?_ ?_ ?_ ?_ ?_)
          ·
           exact ids_one [r.id]
          ·
           unfold maxLen; omega
          ·
           omega
          ·
           have := HSZ.out; have := HZN.out; simp; omega
          intro v2 w2 hown2 hg2 _ _
          have hbz : W4.heap.size ≤ WN.heap.size := HBN.out.size
          have hb2 : Below W4.heap.size W4 w2 := (HBN.out.alloc hbz _).grown hg2 (by simp; omega) (fun q hq => (HON.out.lt q hq).1)
          have HO2 := Lib.hid hown2
          have HB2 := Lib.hid hb2
          clear hown2 hb2 hg2
          go_wp2
          go_roundw
          case rel =>
           refine ⟨i + 1, L ++ [r.id], by go_num, by omega, HB2.out, ?_, by simp; omega, fun j hj => ?_⟩
           ·
            rw [List.map_append, List.length_append]
            simpa using HO2.out
           ·
            rcases List.mem_append.1 hj with h | h
            ·
             exact HL.out j h
            ·
             rw [List.mem_singleton] at h
             exact ⟨r, HM.out, h.symm⟩
          case measure => simp [intOf]; omega
        | false =>
          go_wp2
          go_roundw
          case rel => exact ⟨i + 1, L, by go_num, by omega, HBN.out, HON.out, by omega, HL.out⟩
          case measure => simp [intOf]; omega
     ·
      obtain rfl : i = x.length := by omega
      go_wp2
      go_meet
      case rel => exact ⟨L, HB.out, hown, by omega, HL.out⟩
   case rest =>
    obtain ⟨L, hb, hown, hLl, hL⟩ := hcut
    have HB := Lib.hid hb
    have HL := Lib.hid hL
    obtain ⟨la, lc, rfl⟩ := (Sl.of_own hown).form
    have HSL := Lib.hid (Sl.of_own hown)
    have hpc := (hb.block pb (by have := HZ4.out; omega)).trans HP4.out
    have hoc := (hb.block ob (by have := HZ4.out; omega)).trans HO4.out
    have p1 := cell_of_row wc pb 1 _ _ (0, 0) hpc
    have o1 := cell_of_row wc ob 1 _ _ (0, 0) hoc
    simp at p1 o1
    have fo : ∀ i, wc.frozen? ⟨ob, i, none⟩ = false := fun i => by simp [World.frozen?, hoc]
    have HOC := Lib.hid hoc
    clear hpc hoc hown hb hL
    go_upto_if 51 with fail
    go_cut [] from 52 (fun wx => ∃ α : Nat, α ≠ 0 ∧ (α = 1 ∨ ∃ r ∈ x, r.id = α) ∧ Below (pb + 2) W4 wx ∧ wx.heap[ob]? = some (.cells #[.int .u8 (κ : Int), .int .u64 (α : Int), .int .u64 0, strV s6] 43 (0, 0)))
    case first =>
     by_cases hL0 : 0 < L.length
     ·
      have hqL : (a : Int).tmod (L.length : Int) = ((a % L.length : Nat) : Int) := by rw [Int.tmod_eq_emod_of_nonneg (by omega)]; exact (Int.natCast_emod _ _).symm
      have hm := Nat.mod_lt a hL0
      generalize a % L.length = m at hqL hm
      obtain ⟨b, o, rfl, _, hc⟩ := HSL.out.idAt hm
      have hi1 : (0 : Int) ≤ (m : Int) := by omega
      have hi2 : (m : Int) < (L.length : Int) := by omega
      have hLm := Lib.hid (HL.out _ (List.getElem_mem hm))
      have hq5 : decide ((0 : Int) < (L.length : Int)) = true := decide_eq_true (by omega)
      generalize L[m] = α at hc hLm
      go_wp2
      go_meet
      case rel =>
       obtain ⟨r, hr, e⟩ := hLm.out
       exact ⟨α, by have := hid r hr; omega, .inr ⟨r, hr, e⟩, (HB.out.mono (by have := HZ4.out; omega)).setCell (p := ⟨ob, 1, none⟩) hob _, by
        have := heap_setCell_same (b := ob) (i := 1) HOC.out (.int .u64 (α : Int))
        simpa using this⟩
     ·
      have hq5 : decide ((0 : Int) < (L.length : Int)) = false := decide_eq_false (by omega)
      go_wp2
      go_meet
      case rel => exact ⟨1, by omega, .inl rfl, HB.out.mono (by have h1 := HZ4.out; omega), HOC.out⟩
    case rest =>
     obtain ⟨α, hα0, hα, hb5, ho5⟩ := hcut
     have o3 := cell_of_row wc ob 3 _ _ (0, 0) ho5
     simp at o3
     have fo : ∀ i, wc.frozen? ⟨ob, i, none⟩ = false := fun i => by simp [World.frozen?, ho5]
     have HB5 := Lib.hid hb5
     have HO5 := Lib.hid ho5
     have HA := Lib.hid (And.intro hα0 hα)
     clear hb5 ho5 hα0 hα
     obtain ⟨b14, hb14⟩ : ∃ b, ((κ : Int) == 14) = b := ⟨_, rfl⟩
     go_upto_if 63 with fail
     have HB14 := Lib.hid hb14
     clear hb14
     go_cut [] from 64 (fun wx => ∃ n : List UInt8, n.length ≤ 20 ∧ ((κ = 1 ∨ κ = 2 ∨ κ = 3 ∨ κ = 4) ∧ n ≠ [] ∧ nameB n = true ∨ κ = 14 ∧ n = []) ∧ Below (pb + 2) W4 wx ∧ wx.heap[ob]? = some (.cells #[.int .u8 (κ : Int), .int .u64 (α : Int), .int .u64 0, strV n] 43 (0, 0)))
     case first =>
      cases b14 with
      | true =>
        go_wp2
        go_meet
        case rel =>
         exact ⟨[], by simp, .inr ⟨by have := HB14.out; simp at this; omega, rfl⟩, HB5.out.setCell (p := ⟨ob, 3, none⟩) hob _, by
          have := heap_setCell_same (b := ob) (i := 3) HO5.out (strV [])
          simpa using this⟩
      | false =>
        have h14 : κ ≠ 14 := by have := HB14.out; simp at this; omega
        have TNM := Lib.hid (fun W => name14_any s6 W (by have := HL6.out; omega))
        cases hnb : nameB s6 with
        | true =>
          rw [hnb] at TNM
          have HNB := Lib.hid hnb
          clear hnb
          go_wp2_with fail
          refine (TNM.out wc).mono ?_
          rintro e w6 ⟨rfl, hb6⟩
          have HB6 := Lib.hid (HB5.out.trans (hb6.mono (by have := HB5.out.size; have := HZ4.out; omega)))
          have HO6 := Lib.hid ((hb6.block ob (Array.getElem?_eq_some_iff.1 HO5.out).1).trans HO5.out)
          clear hb6 TNM
          go_wp2
          go_meet
          case rel =>
           refine ⟨s6, HL6.out, .inl ⟨by omega, fun e => ?_, HNB.out⟩, HB6.out, HO6.out⟩
           have := HNB.out
           rw [e] at this
           exact absurd this (by decide)
        | false =>
          rw [hnb] at TNM
          clear hnb
          go_wp2_with fail
          refine (TNM.out wc).mono ?_
          rintro e w6 ⟨rfl, hb6⟩
          have HB6 := Lib.hid (HB5.out.trans (hb6.mono (by have := HB5.out.size; have := HZ4.out; omega)))
          have ho6 := (hb6.block ob (Array.getElem?_eq_some_iff.1 HO5.out).1).trans HO5.out
          have o3 := cell_of_row w6 ob 3 _ _ (0, 0) ho6
          simp at o3
          have fo : ∀ i, w6.frozen? ⟨ob, i, none⟩ = false := fun i => by simp [World.frozen?, ho6]
          have HO6 := Lib.hid ho6
          clear hb6 TNM ho6
          go_wp2
          go_meet
          case rel =>
           exact ⟨[110], by simp, .inl ⟨by omega, by simp, by decide⟩, HB6.out.setCell (p := ⟨ob, 3, none⟩) hob _, by
            have := heap_setCell_same (b := ob) (i := 3) HO6.out (strV [110])
            simpa using this⟩
     case rest =>
      obtain ⟨n, hnl, hn, hb6, ho6⟩ := hcut
      have hr6 := (hb6.block (pb + 1) (by omega)).trans HR4.out
      have o0 := cell_of_row wc ob 0 _ _ (0, 0) ho6
      have o1 := cell_of_row wc ob 1 _ _ (0, 0) ho6
      have o2 := cell_of_row wc ob 2 _ _ (0, 0) ho6
      have o3 := cell_of_row wc ob 3 _ _ (0, 0) ho6
      simp at o0 o1 o2 o3
      have q0 := cell_of_row wc (pb + 1) 0 _ _ (0, 0) hr6
      have q1 := cell_of_row wc (pb + 1) 1 _ _ (0, 0) hr6
      have q2 := cell_of_row wc (pb + 1) 2 _ _ (0, 0) hr6
      have q3 := cell_of_row wc (pb + 1) 3 _ _ (0, 0) hr6
      simp at q0 q1 q2 q3
      have fr : ∀ i, wc.frozen? ⟨pb + 1, i, none⟩ = false := fun i => by simp [World.frozen?, hr6]
      have HB6 := Lib.hid hb6
      have HN := Lib.hid (And.intro hnl hn)
      clear hb6 ho6 hr6 hnl hn
      go_wp2
      refine bodyPost_ret (v := opV κ α 0 n) (by simp [results, Tryz.results11, go_sem, q0, q1, q2, q3, fr]) rfl ?_
      refine ⟨κ, α, n, rfl, ⟨HA.out.1, HN.out.2⟩, HN.out.1, HA.out.2, ?_⟩
      rw [HPB.out]
      have h1 := HW4.out.trans (HB6.out.mono (by omega))
      repeat (first | exact h1 | refine Below.setCell ?_ (p := ⟨pb + 1, _, none⟩) (by show pb ≤ pb + 1; omega) _)
end Go.Proofs.YtihmbbkppkgcmaaGreatDoor
