/-
  Part of a proof: contracts of functions that the claim reaches, and plain lemmas.
-/
import Derived.Test.YtihmbbkppkgcmaaGreatDoorKcBM
set_option linter.all false
namespace Go.Proofs.YtihmbbkppkgcmaaGreatDoor
open Go.RowKit
theorem right_yes' (k a b : Nat) (n : List UInt8) (w : World) (hb : b = 0) (h : OpOk k a n) (hl : n.length ≤ 1000000) (hT : TabOk w) : Calls Tryz.prog 30 #[opV k a b n] w fun e w' => e = .returned (.bool true) ∧ Below w.heap.size w w' := by
 subst hb
 exact right_yes k a n w h hl hT
set_option maxHeartbeats 8000000 in
set_option maxRecDepth 100000 in
theorem of_no1 (av : Value) (k a b : Nat) (n : List UInt8) (nk : Nat) (nname : List UInt8) (nnum : Int) (nt nr : Nat) (nkids : List Nat) (w : World) (hk : k ≤ 255) (TG : ∀ W, Below w.heap.size w W → Calls Tryz.prog 15 #[av, .int .u64 (a : Int)] W (GetRes1 W ⟨nk, nname, nnum, nt, nr, nkids⟩ false))  :
 Calls Tryz.prog 12 #[av, opV k a b n] w fun e w' => ∃ v, e = .returned v ∧ PrintAt w' v [] [] false ∧ Below w.heap.size w w' := by
 have hbA : Below w.heap.size w ((w.alloc (.cells #[.int .u8 (k : Int), .int .u64 (a : Int), .int .u64 (b : Int), strV n] 43)).alloc (.cells #[.slice none 0 0, .slice none 0 0, .bool false] 47)) := ((Below.refl _ _).alloc (Nat.le_refl _) _).alloc (by simp) _
 have hh1 := heap_alloc2_old w (.cells #[.int .u8 (k : Int), .int .u64 (a : Int), .int .u64 (b : Int), strV n] 43) (.cells #[.slice none 0 0, .slice none 0 0, .bool false] 47)
 have hh2 := heap_alloc2_new w (.cells #[.int .u8 (k : Int), .int .u64 (a : Int), .int .u64 (b : Int), strV n] 43) (.cells #[.slice none 0 0, .slice none 0 0, .bool false] 47)
 have hzA : ((w.alloc (.cells #[.int .u8 (k : Int), .int .u64 (a : Int), .int .u64 (b : Int), strV n] 43)).alloc (.cells #[.slice none 0 0, .slice none 0 0, .bool false] 47)).heap.size = w.heap.size + 2 := by simp
 have TGA := Lib.hid (TG _ hbA)
 clear TG
 go_enter Tryz.func12, Tryz.ntmps12
 go_wp2_with fail
 refine TGA.out.mono ?_
 generalize World.alloc (World.alloc w _) _ = WA at hbA hh1 hh2 hzA TGA ⊢
 rintro e w1 ⟨ka, kc, rfl, hs1, hb1⟩
 have hbN : Below w1.heap.size w1 (w1.alloc (.cells #[.int .u8 (nk : Int), strV nname, .int .i64 nnum, .int .u8 (nt : Int), .int .u64 (nr : Int), .slice ka nkids.length kc] 31)) := (Below.refl _ _).alloc (Nat.le_refl _) _
 have hhN := heap_alloc_new w1 (.cells #[.int .u8 (nk : Int), strV nname, .int .i64 nnum, .int .u8 (nt : Int), .int .u64 (nr : Int), .slice ka nkids.length kc] 31)
 have hzN : (w1.alloc (.cells #[.int .u8 (nk : Int), strV nname, .int .i64 nnum, .int .u8 (nt : Int), .int .u64 (nr : Int), .slice ka nkids.length kc] 31)).heap.size = w1.heap.size + 1 := by simp
 go_upto_region 2 with fail
 generalize World.alloc w1 _ = W2 at hbN hhN hzN ⊢
 have hz1 := hb1.size
 have g1 := (hbN.block w.heap.size (by omega)).trans ((hb1.block w.heap.size (by omega)).trans hh1)
 have g2 := (hbN.block (w.heap.size + 1) (by omega)).trans ((hb1.block (w.heap.size + 1) (by omega)).trans hh2)
 have HB2 := Lib.hid (show Below w.heap.size w W2 from hbA.trans ((hb1.trans (hbN.mono hb1.size)).mono hbA.size))
 have cc := fun i => cell_of_row W2 w.heap.size i _ _ (0, 0) g1
 have o0 := cc 0; have o1 := cc 1; have o2 := cc 2; have o3 := cc 3
 have n0 := cell_of_row W2 w1.heap.size 0 _ _ (0, 0) hhN
 have n1 := cell_of_row W2 w1.heap.size 1 _ _ (0, 0) hhN
 simp at o0 o1 o2 o3 n0 n1
 have hob2 : w.heap.size < W2.drew.heap.size := by show w.heap.size < W2.heap.size; omega
 have hnb2 : w1.heap.size < W2.drew.heap.size := by show w1.heap.size < W2.heap.size; omega
 have HG2 := Lib.hid g2
 have HHN := Lib.hid (And.intro g1 hhN)
 have HZ := Lib.hid (show w.heap.size + 1 < w1.heap.size ∧ w1.heap.size < W2.heap.size by omega)
 clear hs1 hb1 hbN hhN hzN hbA hh1 hh2 hzA hz1 g1 g2 TGA cc
 generalize hobe : w.heap.size = ob at o0 o1 o2 o3 hob2 HG2 HZ HHN ⊢
 generalize hnbe : w1.heap.size = nbk at n0 n1 hnb2 HZ HHN ⊢
 have HOB := Lib.hid (And.intro hobe hnbe)
 clear hobe hnbe
 have hHeld : (fun w' => w'.cell? ⟨ob, 0, none⟩ = some (.int .u8 (k : Int)) ∧ w'.cell? ⟨ob, 1, none⟩ = some (.int .u64 (a : Int)) ∧ w'.cell? ⟨ob, 2, none⟩ = some (.int .u64 (b : Int)) ∧ w'.cell? ⟨ob, 3, none⟩ = some (strV n) ∧ w'.cell? ⟨nbk, 0, none⟩ = some (.int .u8 (nk : Int))) W2.drew := ⟨o0, o1, o2, o3, n0⟩
 refine wp_region_two (fun w' => w'.cell? ⟨ob, 0, none⟩ = some (.int .u8 (k : Int)) ∧ w'.cell? ⟨ob, 1, none⟩ = some (.int .u64 (a : Int)) ∧ w'.cell? ⟨ob, 2, none⟩ = some (.int .u64 (b : Int)) ∧ w'.cell? ⟨ob, 3, none⟩ = some (strV n) ∧ w'.cell? ⟨nbk, 0, none⟩ = some (.int .u8 (nk : Int))) 20 (by kernel_rfl) ?_
 refine tk 0 ?_ rfl (by kernel_rfl) (fun _ _ _ h => h) ‹_› (by rfl) ?_ ?_
 rotate_left
 · (intro w' hSw; (try dsimp only at hSw); go_simp; try with_reducible rfl)
 try simp only [Act.put, sA, sB, sC, sD, sE, sF]
 refine tk 1 ?_ rfl (by kernel_rfl) (fun _ _ _ h => h) ‹_› (by rfl) ?_ ?_
 rotate_left
 · (intro w' hSw; (try dsimp only at hSw); go_simp; try with_reducible rfl)
 try simp only [Act.put, sA, sB, sC, sD, sE, sF]
 refine tk 2 ?_ rfl (by kernel_rfl) (fun _ _ _ h => h) ‹_› (by rfl) ?_ ?_
 rotate_left
 · (intro w' hSw; (try dsimp only at hSw); go_simp; try with_reducible rfl)
 try simp only [Act.put, sA, sB, sC, sD, sE, sF]
 refine wpAnyT_take (i := 3) rfl (by kernel_rfl) (fun _ _ _ h => h) (by assumption) (Or.inr ⟨by rfl, rfl⟩) ?_
 try simp only [Act.put, sA, sB, sC, sD, sE, sF]
 refine wpAnyT_take (i := 4) rfl (by kernel_rfl) (fun _ _ _ h => h) (by assumption) (Or.inr ⟨by rfl, rfl⟩) ?_
 try simp only [Act.put, sA, sB, sC, sD, sE, sF]
 refine wpAnyT_take (i := 5) rfl (by kernel_rfl) (fun _ _ _ h => h) (by assumption) (Or.inr ⟨by rfl, rfl⟩) ?_
 try simp only [Act.put, sA, sB, sC, sD, sE, sF]
 refine wpAnyT_take (i := 6) rfl (by kernel_rfl) (fun _ _ _ h => h) (by assumption) (Or.inr ⟨by rfl, rfl⟩) ?_
 try simp only [Act.put, sA, sB, sC, sD, sE, sF]
 refine tk 7 ?_ rfl (by kernel_rfl) (fun _ _ _ h => h) ‹_› (by rfl) ?_ ?_
 rotate_left
 · (intro w' hSw; (try dsimp only at hSw); go_simp; try with_reducible rfl)
 try simp only [Act.put, sA, sB, sC, sD, sE, sF]
 refine tk 8 ?_ rfl (by kernel_rfl) (fun _ _ _ h => h) ‹_› (by rfl) ?_ ?_
 rotate_left
 · (intro w' hSw; (try dsimp only at hSw); go_simp; try with_reducible rfl)
 try simp only [Act.put, sA, sB, sC, sD, sE, sF]
 refine wpAnyT_take (i := 9) rfl (by kernel_rfl) (fun _ _ _ h => h) (by assumption) (Or.inr ⟨by rfl, rfl⟩) ?_
 try simp only [Act.put, sA, sB, sC, sD, sE, sF]
 refine wpAnyT_take (i := 10) rfl (by kernel_rfl) (fun _ _ _ h => h) (by assumption) (Or.inr ⟨by rfl, rfl⟩) ?_
 try simp only [Act.put, sA, sB, sC, sD, sE, sF]
 refine wpAnyT_take (i := 11) rfl (by kernel_rfl) (fun _ _ _ h => h) (by assumption) (Or.inr ⟨by rfl, rfl⟩) ?_
 try simp only [Act.put, sA, sB, sC, sD, sE, sF]
 refine wpAnyT_take (i := 12) rfl (by kernel_rfl) (fun _ _ _ h => h) (by assumption) (Or.inr ⟨by rfl, rfl⟩) ?_
 try simp only [Act.put, sA, sB, sC, sD, sE, sF]
 refine wpAnyT_take (i := 13) rfl (by kernel_rfl) (fun _ _ _ h => h) (by assumption) (Or.inr ⟨by rfl, rfl⟩) ?_
 try simp only [Act.put, sA, sB, sC, sD, sE, sF]
 refine wpAnyT_take (i := 14) rfl (by kernel_rfl) (fun _ _ _ h => h) (by assumption) (Or.inr ⟨by rfl, rfl⟩) ?_
 try simp only [Act.put, sA, sB, sC, sD, sE, sF]
 refine tk 15 ?_ rfl (by kernel_rfl) (fun _ _ _ h => h) ‹_› (by rfl) ?_ ?_
 rotate_left
 · (intro w' hSw; (try dsimp only at hSw); go_simp; try with_reducible rfl)
 try simp only [Act.put, sA, sB, sC, sD, sE, sF]
 refine tk 16 ?_ rfl (by kernel_rfl) (fun _ _ _ h => h) ‹_› (by rfl) ?_ ?_
 rotate_left
 · (intro w' hSw; (try dsimp only at hSw); go_simp; try with_reducible rfl)
 try simp only [Act.put, sA, sB, sC, sD, sE, sF]
 refine wpAnyT_take (i := 17) rfl (by kernel_rfl) (fun _ _ _ h => h) (by assumption) (Or.inr ⟨by rfl, rfl⟩) ?_
 try simp only [Act.put, sA, sB, sC, sD, sE, sF]
 refine wpAnyT_take (i := 18) rfl (by kernel_rfl) (fun _ _ _ h => h) (by assumption) (Or.inr ⟨by rfl, rfl⟩) ?_
 try simp only [Act.put, sA, sB, sC, sD, sE, sF]
 refine wpAnyT_take (i := 19) rfl (by kernel_rfl) (fun _ _ _ h => h) (by assumption) (Or.inr ⟨by rfl, rfl⟩) ?_
 try simp only [Act.put, sA, sB, sC, sD, sE, sF]
 refine wpAnyT_tail (by kernel_rfl) ?_
 simp only [List.drop_succ_cons, List.drop_zero]
 have z := fun i => cell_of_row W2 (ob + 1) i _ _ (0, 0) HG2.out
 have z0 := z 0; have z1 := z 1; have z2 := z 2
 simp at z0 z1 z2
 have fz : ∀ i, W2.frozen? ⟨ob + 1, i, none⟩ = false := fun i => by simp [World.frozen?, HG2.out]
 clear z hHeld
 go_wp2
 exact bodyPost_ret (v := .agg #[.slice none 0 0, .slice none 0 0, .bool false]) (by simp [results, Tryz.results12, go_sem, z0, z1, z2, fz]) rfl ⟨_, rfl, ⟨none, 0, none, 0, rfl, Sl.nil _ _, Sl.nil _ _⟩, (set3_below HB2.out (by have := HOB.out.1; omega) _ _ _).drew⟩
set_option maxHeartbeats 8000000 in
set_option maxRecDepth 100000 in
theorem of_no2 (av : Value) (k a b : Nat) (n : List UInt8) (nk : Nat) (nname : List UInt8) (nnum : Int) (nt nr : Nat) (nkids : List Nat) (w : World) (hk : k ≤ 255) (TG : ∀ W, Below w.heap.size w W → Calls Tryz.prog 15 #[av, .int .u64 (a : Int)] W (GetRes1 W ⟨nk, nname, nnum, nt, nr, nkids⟩ true)) (hw : wantsN k = 0) :
 Calls Tryz.prog 12 #[av, opV k a b n] w fun e w' => ∃ v, e = .returned v ∧ PrintAt w' v [] [] false ∧ Below w.heap.size w w' := by
 have q1 : ((wantsN k : Int) == 0) = true := by simp [hw]
 have hbA : Below w.heap.size w ((w.alloc (.cells #[.int .u8 (k : Int), .int .u64 (a : Int), .int .u64 (b : Int), strV n] 43)).alloc (.cells #[.slice none 0 0, .slice none 0 0, .bool false] 47)) := ((Below.refl _ _).alloc (Nat.le_refl _) _).alloc (by simp) _
 have hh1 := heap_alloc2_old w (.cells #[.int .u8 (k : Int), .int .u64 (a : Int), .int .u64 (b : Int), strV n] 43) (.cells #[.slice none 0 0, .slice none 0 0, .bool false] 47)
 have hh2 := heap_alloc2_new w (.cells #[.int .u8 (k : Int), .int .u64 (a : Int), .int .u64 (b : Int), strV n] 43) (.cells #[.slice none 0 0, .slice none 0 0, .bool false] 47)
 have hzA : ((w.alloc (.cells #[.int .u8 (k : Int), .int .u64 (a : Int), .int .u64 (b : Int), strV n] 43)).alloc (.cells #[.slice none 0 0, .slice none 0 0, .bool false] 47)).heap.size = w.heap.size + 2 := by simp
 have TGA := Lib.hid (TG _ hbA)
 clear TG
 go_enter Tryz.func12, Tryz.ntmps12
 go_wp2_with fail
 refine TGA.out.mono ?_
 generalize World.alloc (World.alloc w _) _ = WA at hbA hh1 hh2 hzA TGA ⊢
 rintro e w1 ⟨ka, kc, rfl, hs1, hb1⟩
 have hbN : Below w1.heap.size w1 (w1.alloc (.cells #[.int .u8 (nk : Int), strV nname, .int .i64 nnum, .int .u8 (nt : Int), .int .u64 (nr : Int), .slice ka nkids.length kc] 31)) := (Below.refl _ _).alloc (Nat.le_refl _) _
 have hhN := heap_alloc_new w1 (.cells #[.int .u8 (nk : Int), strV nname, .int .i64 nnum, .int .u8 (nt : Int), .int .u64 (nr : Int), .slice ka nkids.length kc] 31)
 have hzN : (w1.alloc (.cells #[.int .u8 (nk : Int), strV nname, .int .i64 nnum, .int .u8 (nt : Int), .int .u64 (nr : Int), .slice ka nkids.length kc] 31)).heap.size = w1.heap.size + 1 := by simp
 go_upto_region 2 with fail
 generalize World.alloc w1 _ = W2 at hbN hhN hzN ⊢
 have hz1 := hb1.size
 have g1 := (hbN.block w.heap.size (by omega)).trans ((hb1.block w.heap.size (by omega)).trans hh1)
 have g2 := (hbN.block (w.heap.size + 1) (by omega)).trans ((hb1.block (w.heap.size + 1) (by omega)).trans hh2)
 have HB2 := Lib.hid (show Below w.heap.size w W2 from hbA.trans ((hb1.trans (hbN.mono hb1.size)).mono hbA.size))
 have cc := fun i => cell_of_row W2 w.heap.size i _ _ (0, 0) g1
 have o0 := cc 0; have o1 := cc 1; have o2 := cc 2; have o3 := cc 3
 have n0 := cell_of_row W2 w1.heap.size 0 _ _ (0, 0) hhN
 have n1 := cell_of_row W2 w1.heap.size 1 _ _ (0, 0) hhN
 simp at o0 o1 o2 o3 n0 n1
 have hob2 : w.heap.size < W2.drew.heap.size := by show w.heap.size < W2.heap.size; omega
 have hnb2 : w1.heap.size < W2.drew.heap.size := by show w1.heap.size < W2.heap.size; omega
 have HG2 := Lib.hid g2
 have HHN := Lib.hid (And.intro g1 hhN)
 have HZ := Lib.hid (show w.heap.size + 1 < w1.heap.size ∧ w1.heap.size < W2.heap.size by omega)
 clear hs1 hb1 hbN hhN hzN hbA hh1 hh2 hzA hz1 g1 g2 TGA cc
 generalize hobe : w.heap.size = ob at o0 o1 o2 o3 hob2 HG2 HZ HHN ⊢
 generalize hnbe : w1.heap.size = nbk at n0 n1 hnb2 HZ HHN ⊢
 have HOB := Lib.hid (And.intro hobe hnbe)
 clear hobe hnbe
 have hHeld : (fun w' => w'.cell? ⟨ob, 0, none⟩ = some (.int .u8 (k : Int)) ∧ w'.cell? ⟨ob, 1, none⟩ = some (.int .u64 (a : Int)) ∧ w'.cell? ⟨ob, 2, none⟩ = some (.int .u64 (b : Int)) ∧ w'.cell? ⟨ob, 3, none⟩ = some (strV n) ∧ w'.cell? ⟨nbk, 0, none⟩ = some (.int .u8 (nk : Int))) W2.drew := ⟨o0, o1, o2, o3, n0⟩
 refine wp_region_two (fun w' => w'.cell? ⟨ob, 0, none⟩ = some (.int .u8 (k : Int)) ∧ w'.cell? ⟨ob, 1, none⟩ = some (.int .u64 (a : Int)) ∧ w'.cell? ⟨ob, 2, none⟩ = some (.int .u64 (b : Int)) ∧ w'.cell? ⟨ob, 3, none⟩ = some (strV n) ∧ w'.cell? ⟨nbk, 0, none⟩ = some (.int .u8 (nk : Int))) 20 (by kernel_rfl) ?_
 refine tk 0 ?_ rfl (by kernel_rfl) (fun _ _ _ h => h) ‹_› (by rfl) ?_ ?_
 rotate_left
 · (intro w' hSw; (try dsimp only at hSw); go_simp; try with_reducible rfl)
 try simp only [Act.put, sA, sB, sC, sD, sE, sF]
 refine tk 1 ?_ rfl (by kernel_rfl) (fun _ _ _ h => h) ‹_› (by rfl) ?_ ?_
 rotate_left
 · (intro w' hSw; (try dsimp only at hSw); go_simp; try with_reducible rfl)
 try simp only [Act.put, sA, sB, sC, sD, sE, sF]
 refine tk 2 ?_ rfl (by kernel_rfl) (fun _ _ _ h => h) ‹_› (by rfl) ?_ ?_
 rotate_left
 · (intro w' hSw; (try dsimp only at hSw); go_simp; try with_reducible rfl)
 try simp only [Act.put, sA, sB, sC, sD, sE, sF]
 refine tk 3 ?_ rfl (by kernel_rfl) (fun _ _ _ h => h) ‹_› (by rfl) ?_ ?_
 rotate_left
 · (intro w' hSw; (try dsimp only at hSw); go_simp; try with_reducible rfl)
 try simp only [Act.put, sA, sB, sC, sD, sE, sF]
 refine tk 4 ?_ rfl (by kernel_rfl) (fun _ _ _ h => h) ‹_› (by rfl) ?_ ?_
 rotate_left
 · (intro w' hSw; (try dsimp only at hSw); go_simp; try with_reducible rfl)
 try simp only [Act.put, sA, sB, sC, sD, sE, sF]
 refine wpAnyT_one (i := 5) rfl (by kernel_rfl) (fun K hK => ?_)
 go_simp
 refine (wants_any k hk _).mono ?_
 rintro e wx ⟨rfl, rfl⟩
 refine hK.out _ _ (hHeld) (fun hHeld => ?_)
 clear hK K
 try simp only [Act.put, sA, sB, sC, sD, sE, sF]
 refine tk 6 ?_ rfl (by kernel_rfl) (fun _ _ _ h => h) ‹_› (by rfl) ?_ ?_
 rotate_left
 · (intro w' hSw; (try dsimp only at hSw); go_simp; try with_reducible rfl)
 try simp only [Act.put, sA, sB, sC, sD, sE, sF]
 refine tk 7 ?_ rfl (by kernel_rfl) (fun _ _ _ h => h) ‹_› (by rfl) ?_ ?_
 rotate_left
 · (intro w' hSw; (try dsimp only at hSw); go_simp; try with_reducible rfl)
 try simp only [Act.put, sA, sB, sC, sD, sE, sF]
 refine tk 8 ?_ rfl (by kernel_rfl) (fun _ _ _ h => h) ‹_› (by rfl) ?_ ?_
 rotate_left
 · (intro w' hSw; (try dsimp only at hSw); go_simp; try with_reducible rfl)
 try simp only [Act.put, sA, sB, sC, sD, sE, sF]
 refine wpAnyT_take (i := 9) rfl (by kernel_rfl) (fun _ _ _ h => h) (by assumption) (Or.inr ⟨by rfl, rfl⟩) ?_
 try simp only [Act.put, sA, sB, sC, sD, sE, sF]
 refine wpAnyT_take (i := 10) rfl (by kernel_rfl) (fun _ _ _ h => h) (by assumption) (Or.inr ⟨by rfl, rfl⟩) ?_
 try simp only [Act.put, sA, sB, sC, sD, sE, sF]
 refine wpAnyT_take (i := 11) rfl (by kernel_rfl) (fun _ _ _ h => h) (by assumption) (Or.inr ⟨by rfl, rfl⟩) ?_
 try simp only [Act.put, sA, sB, sC, sD, sE, sF]
 refine wpAnyT_take (i := 12) rfl (by kernel_rfl) (fun _ _ _ h => h) (by assumption) (Or.inr ⟨by rfl, rfl⟩) ?_
 try simp only [Act.put, sA, sB, sC, sD, sE, sF]
 refine wpAnyT_take (i := 13) rfl (by kernel_rfl) (fun _ _ _ h => h) (by assumption) (Or.inr ⟨by rfl, rfl⟩) ?_
 try simp only [Act.put, sA, sB, sC, sD, sE, sF]
 refine wpAnyT_take (i := 14) rfl (by kernel_rfl) (fun _ _ _ h => h) (by assumption) (Or.inr ⟨by rfl, rfl⟩) ?_
 try simp only [Act.put, sA, sB, sC, sD, sE, sF]
 refine tk 15 ?_ rfl (by kernel_rfl) (fun _ _ _ h => h) ‹_› (by rfl) ?_ ?_
 rotate_left
 · (intro w' hSw; (try dsimp only at hSw); go_simp; try with_reducible rfl)
 try simp only [Act.put, sA, sB, sC, sD, sE, sF]
 refine tk 16 ?_ rfl (by kernel_rfl) (fun _ _ _ h => h) ‹_› (by rfl) ?_ ?_
 rotate_left
 · (intro w' hSw; (try dsimp only at hSw); go_simp; try with_reducible rfl)
 try simp only [Act.put, sA, sB, sC, sD, sE, sF]
 refine wpAnyT_take (i := 17) rfl (by kernel_rfl) (fun _ _ _ h => h) (by assumption) (Or.inr ⟨by rfl, rfl⟩) ?_
 try simp only [Act.put, sA, sB, sC, sD, sE, sF]
 refine wpAnyT_take (i := 18) rfl (by kernel_rfl) (fun _ _ _ h => h) (by assumption) (Or.inr ⟨by rfl, rfl⟩) ?_
 try simp only [Act.put, sA, sB, sC, sD, sE, sF]
 refine wpAnyT_take (i := 19) rfl (by kernel_rfl) (fun _ _ _ h => h) (by assumption) (Or.inr ⟨by rfl, rfl⟩) ?_
 try simp only [Act.put, sA, sB, sC, sD, sE, sF]
 refine wpAnyT_tail (by kernel_rfl) ?_
 simp only [List.drop_succ_cons, List.drop_zero]
 have z := fun i => cell_of_row W2 (ob + 1) i _ _ (0, 0) HG2.out
 have z0 := z 0; have z1 := z 1; have z2 := z 2
 simp at z0 z1 z2
 have fz : ∀ i, W2.frozen? ⟨ob + 1, i, none⟩ = false := fun i => by simp [World.frozen?, HG2.out]
 clear z hHeld
 go_wp2
 exact bodyPost_ret (v := .agg #[.slice none 0 0, .slice none 0 0, .bool false]) (by simp [results, Tryz.results12, go_sem, z0, z1, z2, fz]) rfl ⟨_, rfl, ⟨none, 0, none, 0, rfl, Sl.nil _ _, Sl.nil _ _⟩, (set3_below HB2.out (by have := HOB.out.1; omega) _ _ _).drew⟩
set_option maxHeartbeats 8000000 in
set_option maxRecDepth 100000 in
theorem of_no3 (av : Value) (k a b : Nat) (n : List UInt8) (nk : Nat) (nname : List UInt8) (nnum : Int) (nt nr : Nat) (nkids : List Nat) (w : World) (hk : k ≤ 255) (TG : ∀ W, Below w.heap.size w W → Calls Tryz.prog 15 #[av, .int .u64 (a : Int)] W (GetRes1 W ⟨nk, nname, nnum, nt, nr, nkids⟩ true)) (hw : wantsN k ≠ 0) (hnk : nk ≠ wantsN k) :
 Calls Tryz.prog 12 #[av, opV k a b n] w fun e w' => ∃ v, e = .returned v ∧ PrintAt w' v [] [] false ∧ Below w.heap.size w w' := by
 have q1 : ((wantsN k : Int) == 0) = false := by simp; omega
 have q2 : ((nk : Int) != (wantsN k : Int)) = true := by simp; omega
 have hbA : Below w.heap.size w ((w.alloc (.cells #[.int .u8 (k : Int), .int .u64 (a : Int), .int .u64 (b : Int), strV n] 43)).alloc (.cells #[.slice none 0 0, .slice none 0 0, .bool false] 47)) := ((Below.refl _ _).alloc (Nat.le_refl _) _).alloc (by simp) _
 have hh1 := heap_alloc2_old w (.cells #[.int .u8 (k : Int), .int .u64 (a : Int), .int .u64 (b : Int), strV n] 43) (.cells #[.slice none 0 0, .slice none 0 0, .bool false] 47)
 have hh2 := heap_alloc2_new w (.cells #[.int .u8 (k : Int), .int .u64 (a : Int), .int .u64 (b : Int), strV n] 43) (.cells #[.slice none 0 0, .slice none 0 0, .bool false] 47)
 have hzA : ((w.alloc (.cells #[.int .u8 (k : Int), .int .u64 (a : Int), .int .u64 (b : Int), strV n] 43)).alloc (.cells #[.slice none 0 0, .slice none 0 0, .bool false] 47)).heap.size = w.heap.size + 2 := by simp
 have TGA := Lib.hid (TG _ hbA)
 clear TG
 go_enter Tryz.func12, Tryz.ntmps12
 go_wp2_with fail
 refine TGA.out.mono ?_
 generalize World.alloc (World.alloc w _) _ = WA at hbA hh1 hh2 hzA TGA ⊢
 rintro e w1 ⟨ka, kc, rfl, hs1, hb1⟩
 have hbN : Below w1.heap.size w1 (w1.alloc (.cells #[.int .u8 (nk : Int), strV nname, .int .i64 nnum, .int .u8 (nt : Int), .int .u64 (nr : Int), .slice ka nkids.length kc] 31)) := (Below.refl _ _).alloc (Nat.le_refl _) _
 have hhN := heap_alloc_new w1 (.cells #[.int .u8 (nk : Int), strV nname, .int .i64 nnum, .int .u8 (nt : Int), .int .u64 (nr : Int), .slice ka nkids.length kc] 31)
 have hzN : (w1.alloc (.cells #[.int .u8 (nk : Int), strV nname, .int .i64 nnum, .int .u8 (nt : Int), .int .u64 (nr : Int), .slice ka nkids.length kc] 31)).heap.size = w1.heap.size + 1 := by simp
 go_upto_region 2 with fail
 generalize World.alloc w1 _ = W2 at hbN hhN hzN ⊢
 have hz1 := hb1.size
 have g1 := (hbN.block w.heap.size (by omega)).trans ((hb1.block w.heap.size (by omega)).trans hh1)
 have g2 := (hbN.block (w.heap.size + 1) (by omega)).trans ((hb1.block (w.heap.size + 1) (by omega)).trans hh2)
 have HB2 := Lib.hid (show Below w.heap.size w W2 from hbA.trans ((hb1.trans (hbN.mono hb1.size)).mono hbA.size))
 have cc := fun i => cell_of_row W2 w.heap.size i _ _ (0, 0) g1
 have o0 := cc 0; have o1 := cc 1; have o2 := cc 2; have o3 := cc 3
 have n0 := cell_of_row W2 w1.heap.size 0 _ _ (0, 0) hhN
 have n1 := cell_of_row W2 w1.heap.size 1 _ _ (0, 0) hhN
 simp at o0 o1 o2 o3 n0 n1
 have hob2 : w.heap.size < W2.drew.heap.size := by show w.heap.size < W2.heap.size; omega
 have hnb2 : w1.heap.size < W2.drew.heap.size := by show w1.heap.size < W2.heap.size; omega
 have HG2 := Lib.hid g2
 have HHN := Lib.hid (And.intro g1 hhN)
 have HZ := Lib.hid (show w.heap.size + 1 < w1.heap.size ∧ w1.heap.size < W2.heap.size by omega)
 clear hs1 hb1 hbN hhN hzN hbA hh1 hh2 hzA hz1 g1 g2 TGA cc
 generalize hobe : w.heap.size = ob at o0 o1 o2 o3 hob2 HG2 HZ HHN ⊢
 generalize hnbe : w1.heap.size = nbk at n0 n1 hnb2 HZ HHN ⊢
 have HOB := Lib.hid (And.intro hobe hnbe)
 clear hobe hnbe
 have hHeld : (fun w' => w'.cell? ⟨ob, 0, none⟩ = some (.int .u8 (k : Int)) ∧ w'.cell? ⟨ob, 1, none⟩ = some (.int .u64 (a : Int)) ∧ w'.cell? ⟨ob, 2, none⟩ = some (.int .u64 (b : Int)) ∧ w'.cell? ⟨ob, 3, none⟩ = some (strV n) ∧ w'.cell? ⟨nbk, 0, none⟩ = some (.int .u8 (nk : Int))) W2.drew := ⟨o0, o1, o2, o3, n0⟩
 refine wp_region_two (fun w' => w'.cell? ⟨ob, 0, none⟩ = some (.int .u8 (k : Int)) ∧ w'.cell? ⟨ob, 1, none⟩ = some (.int .u64 (a : Int)) ∧ w'.cell? ⟨ob, 2, none⟩ = some (.int .u64 (b : Int)) ∧ w'.cell? ⟨ob, 3, none⟩ = some (strV n) ∧ w'.cell? ⟨nbk, 0, none⟩ = some (.int .u8 (nk : Int))) 20 (by kernel_rfl) ?_
 refine tk 0 ?_ rfl (by kernel_rfl) (fun _ _ _ h => h) ‹_› (by rfl) ?_ ?_
 rotate_left
 · (intro w' hSw; (try dsimp only at hSw); go_simp; try with_reducible rfl)
 try simp only [Act.put, sA, sB, sC, sD, sE, sF]
 refine tk 1 ?_ rfl (by kernel_rfl) (fun _ _ _ h => h) ‹_› (by rfl) ?_ ?_
 rotate_left
 · (intro w' hSw; (try dsimp only at hSw); go_simp; try with_reducible rfl)
 try simp only [Act.put, sA, sB, sC, sD, sE, sF]
 refine tk 2 ?_ rfl (by kernel_rfl) (fun _ _ _ h => h) ‹_› (by rfl) ?_ ?_
 rotate_left
 · (intro w' hSw; (try dsimp only at hSw); go_simp; try with_reducible rfl)
 try simp only [Act.put, sA, sB, sC, sD, sE, sF]
 refine tk 3 ?_ rfl (by kernel_rfl) (fun _ _ _ h => h) ‹_› (by rfl) ?_ ?_
 rotate_left
 · (intro w' hSw; (try dsimp only at hSw); go_simp; try with_reducible rfl)
 try simp only [Act.put, sA, sB, sC, sD, sE, sF]
 refine tk 4 ?_ rfl (by kernel_rfl) (fun _ _ _ h => h) ‹_› (by rfl) ?_ ?_
 rotate_left
 · (intro w' hSw; (try dsimp only at hSw); go_simp; try with_reducible rfl)
 try simp only [Act.put, sA, sB, sC, sD, sE, sF]
 refine wpAnyT_one (i := 5) rfl (by kernel_rfl) (fun K hK => ?_)
 go_simp
 refine (wants_any k hk _).mono ?_
 rintro e wx ⟨rfl, rfl⟩
 refine hK.out _ _ (hHeld) (fun hHeld => ?_)
 clear hK K
 try simp only [Act.put, sA, sB, sC, sD, sE, sF]
 refine tk 6 ?_ rfl (by kernel_rfl) (fun _ _ _ h => h) ‹_› (by rfl) ?_ ?_
 rotate_left
 · (intro w' hSw; (try dsimp only at hSw); go_simp; try with_reducible rfl)
 try simp only [Act.put, sA, sB, sC, sD, sE, sF]
 refine tk 7 ?_ rfl (by kernel_rfl) (fun _ _ _ h => h) ‹_› (by rfl) ?_ ?_
 rotate_left
 · (intro w' hSw; (try dsimp only at hSw); go_simp; try with_reducible rfl)
 try simp only [Act.put, sA, sB, sC, sD, sE, sF]
 refine tk 8 ?_ rfl (by kernel_rfl) (fun _ _ _ h => h) ‹_› (by rfl) ?_ ?_
 rotate_left
 · (intro w' hSw; (try dsimp only at hSw); go_simp; try with_reducible rfl)
 try simp only [Act.put, sA, sB, sC, sD, sE, sF]
 refine tk 9 ?_ rfl (by kernel_rfl) (fun _ _ _ h => h) ‹_› (by rfl) ?_ ?_
 rotate_left
 · (intro w' hSw; (try dsimp only at hSw); go_simp; try with_reducible rfl)
 try simp only [Act.put, sA, sB, sC, sD, sE, sF]
 refine tk 10 ?_ rfl (by kernel_rfl) (fun _ _ _ h => h) ‹_› (by rfl) ?_ ?_
 rotate_left
 · (intro w' hSw; (try dsimp only at hSw); go_simp; try with_reducible rfl)
 try simp only [Act.put, sA, sB, sC, sD, sE, sF]
 refine tk 11 ?_ rfl (by kernel_rfl) (fun _ _ _ h => h) ‹_› (by rfl) ?_ ?_
 rotate_left
 · (intro w' hSw; (try dsimp only at hSw); go_simp; try with_reducible rfl)
 try simp only [Act.put, sA, sB, sC, sD, sE, sF]
 refine tk 12 ?_ rfl (by kernel_rfl) (fun _ _ _ h => h) ‹_› (by rfl) ?_ ?_
 rotate_left
 · (intro w' hSw; (try dsimp only at hSw); go_simp; try with_reducible rfl)
 try simp only [Act.put, sA, sB, sC, sD, sE, sF]
 refine wpAnyT_one (i := 13) rfl (by kernel_rfl) (fun K hK => ?_)
 go_simp
 refine (wants_any k hk _).mono ?_
 rintro e wx ⟨rfl, rfl⟩
 refine hK.out _ _ (hHeld) (fun hHeld => ?_)
 clear hK K
 try simp only [Act.put, sA, sB, sC, sD, sE, sF]
 refine tk 14 ?_ rfl (by kernel_rfl) (fun _ _ _ h => h) ‹_› (by rfl) ?_ ?_
 rotate_left
 · (intro w' hSw; (try dsimp only at hSw); go_simp; try with_reducible rfl)
 try simp only [Act.put, sA, sB, sC, sD, sE, sF]
 refine tk 15 ?_ rfl (by kernel_rfl) (fun _ _ _ h => h) ‹_› (by rfl) ?_ ?_
 rotate_left
 · (intro w' hSw; (try dsimp only at hSw); go_simp; try with_reducible rfl)
 try simp only [Act.put, sA, sB, sC, sD, sE, sF]
 refine tk 16 ?_ rfl (by kernel_rfl) (fun _ _ _ h => h) ‹_› (by rfl) ?_ ?_
 rotate_left
 · (intro w' hSw; (try dsimp only at hSw); go_simp; try with_reducible rfl)
 try simp only [Act.put, sA, sB, sC, sD, sE, sF]
 refine wpAnyT_take (i := 17) rfl (by kernel_rfl) (fun _ _ _ h => h) (by assumption) (Or.inr ⟨by rfl, rfl⟩) ?_
 try simp only [Act.put, sA, sB, sC, sD, sE, sF]
 refine wpAnyT_take (i := 18) rfl (by kernel_rfl) (fun _ _ _ h => h) (by assumption) (Or.inr ⟨by rfl, rfl⟩) ?_
 try simp only [Act.put, sA, sB, sC, sD, sE, sF]
 refine wpAnyT_take (i := 19) rfl (by kernel_rfl) (fun _ _ _ h => h) (by assumption) (Or.inr ⟨by rfl, rfl⟩) ?_
 try simp only [Act.put, sA, sB, sC, sD, sE, sF]
 refine wpAnyT_tail (by kernel_rfl) ?_
 simp only [List.drop_succ_cons, List.drop_zero]
 have z := fun i => cell_of_row W2 (ob + 1) i _ _ (0, 0) HG2.out
 have z0 := z 0; have z1 := z 1; have z2 := z 2
 simp at z0 z1 z2
 have fz : ∀ i, W2.frozen? ⟨ob + 1, i, none⟩ = false := fun i => by simp [World.frozen?, HG2.out]
 clear z hHeld
 go_wp2
 exact bodyPost_ret (v := .agg #[.slice none 0 0, .slice none 0 0, .bool false]) (by simp [results, Tryz.results12, go_sem, z0, z1, z2, fz]) rfl ⟨_, rfl, ⟨none, 0, none, 0, rfl, Sl.nil _ _, Sl.nil _ _⟩, (set3_below HB2.out (by have := HOB.out.1; omega) _ _ _).drew⟩
set_option maxHeartbeats 8000000 in
set_option maxRecDepth 100000 in
theorem of_yes (av : Value) (k a b : Nat) (n : List UInt8) (nk : Nat) (nname : List UInt8) (nnum : Int) (nt nr : Nat) (nkids : List Nat) (w : World) (hk : k ≤ 255) (TG : ∀ W, Below w.heap.size w W → Calls Tryz.prog 15 #[av, .int .u64 (a : Int)] W (GetRes1 W ⟨nk, nname, nnum, nt, nr, nkids⟩ true)) (hw : wantsN k ≠ 0) (hnk : nk = wantsN k) (hb0 : b = 0) (hok : OpOk k a n) (hln : n.length ≤ 1000000) (hT : TabOk w) (r : Nat) (TSC : ∀ W, Below w.heap.size w W → Calls Tryz.prog 10 #[av, .int .u64 (a : Int)] W fun e w' => e = .returned (.int .u64 (r : Int)) ∧ Below W.heap.size W w') :
 Calls Tryz.prog 12 #[av, opV k a b n] w fun e w' => ∃ v, e = .returned v ∧ PrintAt w' v [a] (if k = 14 then [] else [(r, n), (r, nname)]) true ∧ Below w.heap.size w w' := by
 have HB0 := Lib.hid hb0
 clear hb0
 have q1 : ((wantsN k : Int) == 0) = false := by simp; omega
 have q2 : ((nk : Int) != (wantsN k : Int)) = false := by simp; omega
 clear hnk
 have hbA : Below w.heap.size w ((w.alloc (.cells #[.int .u8 (k : Int), .int .u64 (a : Int), .int .u64 (b : Int), strV n] 43)).alloc (.cells #[.slice none 0 0, .slice none 0 0, .bool false] 47)) := ((Below.refl _ _).alloc (Nat.le_refl _) _).alloc (by simp) _
 have hh1 := heap_alloc2_old w (.cells #[.int .u8 (k : Int), .int .u64 (a : Int), .int .u64 (b : Int), strV n] 43) (.cells #[.slice none 0 0, .slice none 0 0, .bool false] 47)
 have hh2 := heap_alloc2_new w (.cells #[.int .u8 (k : Int), .int .u64 (a : Int), .int .u64 (b : Int), strV n] 43) (.cells #[.slice none 0 0, .slice none 0 0, .bool false] 47)
 have hzA : ((w.alloc (.cells #[.int .u8 (k : Int), .int .u64 (a : Int), .int .u64 (b : Int), strV n] 43)).alloc (.cells #[.slice none 0 0, .slice none 0 0, .bool false] 47)).heap.size = w.heap.size + 2 := by simp
 have TGA := Lib.hid (TG _ hbA)
 clear TG
 go_enter Tryz.func12, Tryz.ntmps12
 go_wp2_with fail
 refine TGA.out.mono ?_
 generalize World.alloc (World.alloc w _) _ = WA at hbA hh1 hh2 hzA TGA ⊢
 rintro e w1 ⟨ka, kc, rfl, hs1, hb1⟩
 have hbN : Below w1.heap.size w1 (w1.alloc (.cells #[.int .u8 (nk : Int), strV nname, .int .i64 nnum, .int .u8 (nt : Int), .int .u64 (nr : Int), .slice ka nkids.length kc] 31)) := (Below.refl _ _).alloc (Nat.le_refl _) _
 have hhN := heap_alloc_new w1 (.cells #[.int .u8 (nk : Int), strV nname, .int .i64 nnum, .int .u8 (nt : Int), .int .u64 (nr : Int), .slice ka nkids.length kc] 31)
 have hzN : (w1.alloc (.cells #[.int .u8 (nk : Int), strV nname, .int .i64 nnum, .int .u8 (nt : Int), .int .u64 (nr : Int), .slice ka nkids.length kc] 31)).heap.size = w1.heap.size + 1 := by simp
 go_upto_region 2 with fail
 generalize World.alloc w1 _ = W2 at hbN hhN hzN ⊢
 have hz1 := hb1.size
 have g1 := (hbN.block w.heap.size (by omega)).trans ((hb1.block w.heap.size (by omega)).trans hh1)
 have g2 := (hbN.block (w.heap.size + 1) (by omega)).trans ((hb1.block (w.heap.size + 1) (by omega)).trans hh2)
 have HB2 := Lib.hid (show Below w.heap.size w W2 from hbA.trans ((hb1.trans (hbN.mono hb1.size)).mono hbA.size))
 have cc := fun i => cell_of_row W2 w.heap.size i _ _ (0, 0) g1
 have o0 := cc 0; have o1 := cc 1; have o2 := cc 2; have o3 := cc 3
 have n0 := cell_of_row W2 w1.heap.size 0 _ _ (0, 0) hhN
 have n1 := cell_of_row W2 w1.heap.size 1 _ _ (0, 0) hhN
 simp at o0 o1 o2 o3 n0 n1
 have hob2 : w.heap.size < W2.drew.heap.size := by show w.heap.size < W2.heap.size; omega
 have hnb2 : w1.heap.size < W2.drew.heap.size := by show w1.heap.size < W2.heap.size; omega
 have HG2 := Lib.hid g2
 have HHN := Lib.hid (And.intro g1 hhN)
 have HZ := Lib.hid (show w.heap.size + 1 < w1.heap.size ∧ w1.heap.size < W2.heap.size by omega)
 have HTD := Lib.hid (show TabOk W2.drew from hT.below (HB2.out.trans ((Below.refl w.heap.size W2).drew)) hT.lt)
 have HOKK := Lib.hid hok
 have HSC := Lib.hid TSC
 clear hT hok TSC
 clear hs1 hb1 hbN hhN hzN hbA hh1 hh2 hzA hz1 g1 g2 TGA cc
 generalize hobe : w.heap.size = ob at o0 o1 o2 o3 hob2 HG2 HZ HHN ⊢
 generalize hnbe : w1.heap.size = nbk at n0 n1 hnb2 HZ HHN ⊢
 have HOB := Lib.hid (And.intro hobe hnbe)
 clear hobe hnbe
 have hHeld : (fun w' => w'.cell? ⟨ob, 0, none⟩ = some (.int .u8 (k : Int)) ∧ w'.cell? ⟨ob, 1, none⟩ = some (.int .u64 (a : Int)) ∧ w'.cell? ⟨ob, 2, none⟩ = some (.int .u64 (b : Int)) ∧ w'.cell? ⟨ob, 3, none⟩ = some (strV n) ∧ w'.cell? ⟨nbk, 0, none⟩ = some (.int .u8 (nk : Int))) W2.drew := ⟨o0, o1, o2, o3, n0⟩
 refine wp_region_two (fun w' => w'.cell? ⟨ob, 0, none⟩ = some (.int .u8 (k : Int)) ∧ w'.cell? ⟨ob, 1, none⟩ = some (.int .u64 (a : Int)) ∧ w'.cell? ⟨ob, 2, none⟩ = some (.int .u64 (b : Int)) ∧ w'.cell? ⟨ob, 3, none⟩ = some (strV n) ∧ w'.cell? ⟨nbk, 0, none⟩ = some (.int .u8 (nk : Int))) 20 (by kernel_rfl) ?_
 refine tk 0 ?_ rfl (by kernel_rfl) (fun _ _ _ h => h) ‹_› (by rfl) ?_ ?_
 rotate_left
 · (intro w' hSw; (try dsimp only at hSw); go_simp; try with_reducible rfl)
 try simp only [Act.put, sA, sB, sC, sD, sE, sF]
 refine tk 1 ?_ rfl (by kernel_rfl) (fun _ _ _ h => h) ‹_› (by rfl) ?_ ?_
 rotate_left
 · (intro w' hSw; (try dsimp only at hSw); go_simp; try with_reducible rfl)
 try simp only [Act.put, sA, sB, sC, sD, sE, sF]
 refine tk 2 ?_ rfl (by kernel_rfl) (fun _ _ _ h => h) ‹_› (by rfl) ?_ ?_
 rotate_left
 · (intro w' hSw; (try dsimp only at hSw); go_simp; try with_reducible rfl)
 try simp only [Act.put, sA, sB, sC, sD, sE, sF]
 refine tk 3 ?_ rfl (by kernel_rfl) (fun _ _ _ h => h) ‹_› (by rfl) ?_ ?_
 rotate_left
 · (intro w' hSw; (try dsimp only at hSw); go_simp; try with_reducible rfl)
 try simp only [Act.put, sA, sB, sC, sD, sE, sF]
 refine tk 4 ?_ rfl (by kernel_rfl) (fun _ _ _ h => h) ‹_› (by rfl) ?_ ?_
 rotate_left
 · (intro w' hSw; (try dsimp only at hSw); go_simp; try with_reducible rfl)
 try simp only [Act.put, sA, sB, sC, sD, sE, sF]
 refine wpAnyT_one (i := 5) rfl (by kernel_rfl) (fun K hK => ?_)
 go_simp
 refine (wants_any k hk _).mono ?_
 rintro e wx ⟨rfl, rfl⟩
 refine hK.out _ _ (hHeld) (fun hHeld => ?_)
 clear hK K
 try simp only [Act.put, sA, sB, sC, sD, sE, sF]
 refine tk 6 ?_ rfl (by kernel_rfl) (fun _ _ _ h => h) ‹_› (by rfl) ?_ ?_
 rotate_left
 · (intro w' hSw; (try dsimp only at hSw); go_simp; try with_reducible rfl)
 try simp only [Act.put, sA, sB, sC, sD, sE, sF]
 refine tk 7 ?_ rfl (by kernel_rfl) (fun _ _ _ h => h) ‹_› (by rfl) ?_ ?_
 rotate_left
 · (intro w' hSw; (try dsimp only at hSw); go_simp; try with_reducible rfl)
 try simp only [Act.put, sA, sB, sC, sD, sE, sF]
 refine tk 8 ?_ rfl (by kernel_rfl) (fun _ _ _ h => h) ‹_› (by rfl) ?_ ?_
 rotate_left
 · (intro w' hSw; (try dsimp only at hSw); go_simp; try with_reducible rfl)
 try simp only [Act.put, sA, sB, sC, sD, sE, sF]
 refine tk 9 ?_ rfl (by kernel_rfl) (fun _ _ _ h => h) ‹_› (by rfl) ?_ ?_
 rotate_left
 · (intro w' hSw; (try dsimp only at hSw); go_simp; try with_reducible rfl)
 try simp only [Act.put, sA, sB, sC, sD, sE, sF]
 refine tk 10 ?_ rfl (by kernel_rfl) (fun _ _ _ h => h) ‹_› (by rfl) ?_ ?_
 rotate_left
 · (intro w' hSw; (try dsimp only at hSw); go_simp; try with_reducible rfl)
 try simp only [Act.put, sA, sB, sC, sD, sE, sF]
 refine tk 11 ?_ rfl (by kernel_rfl) (fun _ _ _ h => h) ‹_› (by rfl) ?_ ?_
 rotate_left
 · (intro w' hSw; (try dsimp only at hSw); go_simp; try with_reducible rfl)
 try simp only [Act.put, sA, sB, sC, sD, sE, sF]
 refine tk 12 ?_ rfl (by kernel_rfl) (fun _ _ _ h => h) ‹_› (by rfl) ?_ ?_
 rotate_left
 · (intro w' hSw; (try dsimp only at hSw); go_simp; try with_reducible rfl)
 try simp only [Act.put, sA, sB, sC, sD, sE, sF]
 refine wpAnyT_one (i := 13) rfl (by kernel_rfl) (fun K hK => ?_)
 go_simp
 refine (wants_any k hk _).mono ?_
 rintro e wx ⟨rfl, rfl⟩
 refine hK.out _ _ (hHeld) (fun hHeld => ?_)
 clear hK K
 try simp only [Act.put, sA, sB, sC, sD, sE, sF]
 refine tk 14 ?_ rfl (by kernel_rfl) (fun _ _ _ h => h) ‹_› (by rfl) ?_ ?_
 rotate_left
 · (intro w' hSw; (try dsimp only at hSw); go_simp; try with_reducible rfl)
 try simp only [Act.put, sA, sB, sC, sD, sE, sF]
 refine tk 15 ?_ rfl (by kernel_rfl) (fun _ _ _ h => h) ‹_› (by rfl) ?_ ?_
 rotate_left
 · (intro w' hSw; (try dsimp only at hSw); go_simp; try with_reducible rfl)
 try simp only [Act.put, sA, sB, sC, sD, sE, sF]
 refine tk 16 ?_ rfl (by kernel_rfl) (fun _ _ _ h => h) ‹_› (by rfl) ?_ ?_
 rotate_left
 · (intro w' hSw; (try dsimp only at hSw); go_simp; try with_reducible rfl)
 try simp only [Act.put, sA, sB, sC, sD, sE, sF]
 refine tk 17 ?_ rfl (by kernel_rfl) (fun _ _ _ h => h) ‹_› (by rfl) ?_ ?_
 rotate_left
 · (intro w' hSw; (try dsimp only at hSw); go_simp; try with_reducible rfl)
 try simp only [Act.put, sA, sB, sC, sD, sE, sF]
 refine wpAnyT_one (i := 18) rfl (by kernel_rfl) (fun K hK => ?_)
 go_simp
 refine (right_yes' k a b n W2.drew HB0.out HOKK.out hln HTD.out).mono ?_
 rintro e w5 ⟨rfl, hb5⟩
 have HB5 := Lib.hid hb5
 refine hK.out _ _ (⟨(hb5.cell hob2).trans hHeld.1, (hb5.cell hob2).trans hHeld.2.1, (hb5.cell hob2).trans hHeld.2.2.1, (hb5.cell hob2).trans hHeld.2.2.2.1, (hb5.cell hnb2).trans hHeld.2.2.2.2⟩) (fun hHeld => ?_)
 clear hK K
 try simp only [Act.put, sA, sB, sC, sD, sE, sF]
 refine tk 19 ?_ rfl (by kernel_rfl) (fun _ _ _ h => h) ‹_› (by rfl) ?_ ?_
 rotate_left
 · (intro w' hSw; (try dsimp only at hSw); go_simp; try with_reducible rfl)
 try simp only [Act.put, sA, sB, sC, sD, sE, sF]
 refine wpAnyT_tail (by kernel_rfl) ?_
 simp only [List.drop_succ_cons, List.drop_zero]
 obtain ⟨o0, o1, o2, o3, n0⟩ := hHeld
 have hb5 := HB5.out
 have n1 := (hb5.cell (p := ⟨nbk, 1, none⟩) hnb2).trans n1
 have HR5 := Lib.hid ((hb5.block (ob + 1) (by have := HZ.out; show ob + 1 < W2.heap.size; omega)).trans HG2.out)
 have HB6 := Lib.hid ((HB2.out.drew).trans (hb5.mono (by have := HZ.out; have := HOB.out; show w.heap.size ≤ W2.heap.size; omega)))
 have hz5 : ob + 1 < w5.heap.size ∧ nbk < w5.heap.size := by have h1 := hb5.size; have h2 := HZ.out; have h3 : W2.drew.heap.size = W2.heap.size := rfl; omega
 clear hb5 HB5
 have hbB : Below w5.heap.size w5 ((w5.alloc (.cells #[.int .u64 (a : Int)] 28)).alloc (.cells #[.slice (some ⟨w5.heap.size, 0, none⟩) 1 1, .slice none 0 0, .bool true] 47)) := ((Below.refl _ _).alloc (Nat.le_refl _) _).alloc (by simp) _
 have hhB1 := heap_alloc2_old w5 (.cells #[.int .u64 (a : Int)] 28) (.cells #[.slice (some ⟨w5.heap.size, 0, none⟩) 1 1, .slice none 0 0, .bool true] 47)
 have hhB2 := heap_alloc2_new w5 (.cells #[.int .u64 (a : Int)] 28) (.cells #[.slice (some ⟨w5.heap.size, 0, none⟩) 1 1, .slice none 0 0, .bool true] 47)
 have hzB : ((w5.alloc (.cells #[.int .u64 (a : Int)] 28)).alloc (.cells #[.slice (some ⟨w5.heap.size, 0, none⟩) 1 1, .slice none 0 0, .bool true] 47)).heap.size = w5.heap.size + 2 := by simp
 have hob5 := hz5.1
 have hnb5 := hz5.2
 have hob5' : ob < w5.heap.size := by omega
 have hob6 : ob < w5.heap.size + 1 := by omega
 have hnb6 : nbk < w5.heap.size + 1 := by omega
 by_cases h14 : k = 14
 ·
  have q14 : ((k : Int) != 14) = false := by simp [h14]
  have HK14 := Lib.hid h14
  clear h14
  have cr := fun i => cell_of_row w5 (ob + 1) i _ _ (0, 0) HR5.out
  have r0 := cr 0; have r1 := cr 1; have r2 := cr 2
  simp at r0 r1 r2
  have fr : ∀ i, w5.frozen? ⟨ob + 1, i, none⟩ = false := fun i => by simp [World.frozen?, HR5.out]
  have hob8 : ob + 1 < w5.heap.size + 1 := by omega
  have HP := Lib.hid (show ∀ W6, W6 = ((((w5.setCell ⟨ob + 1, 0, none⟩ (.slice (some ⟨w5.heap.size, 0, none⟩) 1 1)).setCell ⟨ob + 1, 1, none⟩ (.slice none 0 0)).setCell ⟨ob + 1, 2, none⟩ (.bool true)).alloc (.cells #[.int .u64 (a : Int)] 28)).alloc (.cells #[.slice (some ⟨w5.heap.size, 0, none⟩) 1 1, .slice none 0 0, .bool true] 47) → PrintAt W6 (.agg #[.slice (some ⟨w5.heap.size, 0, none⟩) 1 1, .slice none 0 0, .bool true]) [a] (if k = 14 then [] else [(r, n), (r, nname)]) true ∧ Below w.heap.size w W6 from fun W6 e => by
   rw [if_pos HK14.out]
   subst e
   have hs := heap_alloc2_old (((w5.setCell ⟨ob + 1, 0, none⟩ (.slice (some ⟨w5.heap.size, 0, none⟩) 1 1)).setCell ⟨ob + 1, 1, none⟩ (.slice none 0 0)).setCell ⟨ob + 1, 2, none⟩ (.bool true)) (.cells #[.int .u64 (a : Int)] 28) (.cells #[.slice (some ⟨w5.heap.size, 0, none⟩) 1 1, .slice none 0 0, .bool true] 47)
   have h3 := set3_below HB6.out (g := ob + 1) (by have := HOB.out.1; omega) (.slice (some ⟨w5.heap.size, 0, none⟩) 1 1) (.slice none 0 0) (.bool true)
   exact ⟨⟨_, _, none, 0, rfl, sl_one (by simpa using hs), Sl.nil _ _⟩, (h3.alloc h3.size _).alloc (by have := h3.size; simp at this ⊢; omega) _⟩)
  clear hbB hhB1 hhB2 hzB cr HB6 HR5
  go_wp2
  refine bodyPost_ret (v := .agg #[.slice (some ⟨w5.heap.size, 0, none⟩) 1 1, .slice none 0 0, .bool true]) (by simp [results, Tryz.results12, go_sem, r0, r1, r2, fr, hob8, hob5]) rfl ?_
  obtain ⟨h1, h2⟩ := HP.out _ rfl
  rw [if_pos HK14.out] at h1
  exact ⟨_, rfl, h1, h2⟩
 ·
  have q14 : ((k : Int) != 14) = true := by simp; omega
  have HK14 := Lib.hid h14
  clear h14
  have HS := Lib.hid (HSC.out _ (HB6.out.trans (hbB.mono HB6.out.size)))
  go_wp2_with fail
  generalize World.alloc (World.alloc w5 _) _ = W6 at hbB hhB1 hhB2 hzB HS ⊢
  refine HS.out.mono ?_
  rintro e w7 ⟨rfl, hb7⟩
  have t1 := (hb7.block w5.heap.size (by omega)).trans hhB1
  have t2 := (hb7.block (w5.heap.size + 1) (by omega)).trans hhB2
  have HB7 := Lib.hid (HB6.out.trans ((hbB.trans (hb7.mono hbB.size)).mono HB6.out.size))
  have o3 := (hb7.cell (p := ⟨ob, 3, none⟩) (by show ob < W6.heap.size; omega)).trans ((hbB.cell (p := ⟨ob, 3, none⟩) hob5').trans o3)
  have n1 := (hb7.cell (p := ⟨nbk, 1, none⟩) (by show nbk < W6.heap.size; omega)).trans ((hbB.cell (p := ⟨nbk, 1, none⟩) hnb5).trans n1)
  have HR7 := Lib.hid ((hb7.block (ob + 1) (by omega)).trans ((hbB.block (ob + 1) hob5).trans HR5.out))
  have hz7 := hb7.size
  have cr := fun i => cell_of_row w7 (ob + 1) i _ _ (0, 0) HR7.out
  have r0 := cr 0; have r1 := cr 1; have r2 := cr 2
  have ct := fun i => cell_of_row w7 (w5.heap.size + 1) i _ _ (0, 0) t2
  have p0 := ct 0; have p1 := ct 1; have p2 := ct 2
  simp at r0 r1 r2 p0 p1 p2
  have fr : ∀ i, w7.frozen? ⟨ob + 1, i, none⟩ = false := fun i => by simp [World.frozen?, HR7.out]
  have fp : ∀ i, w7.frozen? ⟨w5.heap.size + 1, i, none⟩ = false := fun i => by simp [World.frozen?, t2]
  have HT1 := Lib.hid t1
  have HOZ := Lib.hid (show ob + 1 < w5.heap.size ∧ w5.heap.size + 1 < w7.heap.size by omega)
  have hp7 : w5.heap.size + 1 < w7.heap.size := by omega
  have ho7 : ob + 1 < w7.heap.size := by omega
  have hop : ¬ ob + 1 = w5.heap.size + 1 := by omega
  have hpo : ¬ w5.heap.size + 1 = ob + 1 := by omega
  have hop2 : ¬ ob = w5.heap.size := by omega
  clear t1 t2 hb7 hbB hhB1 hhB2 hzB HS cr ct HB6 HR5 HR7 o0 o1 o2 n0 hob5 hnb5 hob5' hob6 hnb6 hz5 hz7
  generalize w5.heap.size = pk at p0 p1 p2 fp hp7 hop hpo hop2 HT1 HOZ ⊢
  have HP := Lib.hid (show ∀ W8, W8 = (((((w7.setCell ⟨pk + 1, 1, none⟩ (.slice (some ⟨w7.heap.size, 0, none⟩) 2 2)).setCell ⟨ob + 1, 0, none⟩ (.slice (some ⟨pk, 0, none⟩) 1 1)).setCell ⟨ob + 1, 1, none⟩ (.slice (some ⟨w7.heap.size, 0, none⟩) 2 2)).setCell ⟨ob + 1, 2, none⟩ (.bool true)).alloc (.cells #[.int .u64 (r : Int), strV n, .int .u64 (r : Int), strV nname] 57)) → PrintAt W8 (.agg #[.slice (some ⟨pk, 0, none⟩) 1 1, .slice (some ⟨w7.heap.size, 0, none⟩) 2 2, .bool true]) [a] [(r, n), (r, nname)] true ∧ Below w.heap.size w W8 from fun W8 e => by
   subst e
   have h0 := HOZ.out
   have h00 := HOB.out.1
   have ht : ((((w7.setCell ⟨pk + 1, 1, none⟩ (.slice (some ⟨w7.heap.size, 0, none⟩) 2 2)).setCell ⟨ob + 1, 0, none⟩ (.slice (some ⟨pk, 0, none⟩) 1 1)).setCell ⟨ob + 1, 1, none⟩ (.slice (some ⟨w7.heap.size, 0, none⟩) 2 2)).setCell ⟨ob + 1, 2, none⟩ (.bool true)).heap[pk]? = some (.cells #[.int .u64 (a : Int)] 28 (0, 0)) :=
    (Below.heap_setCell _ ⟨ob + 1, 2, none⟩ _ pk (by show ¬ pk = ob + 1; omega)).trans ((Below.heap_setCell _ ⟨ob + 1, 1, none⟩ _ pk (by show ¬ pk = ob + 1; omega)).trans ((Below.heap_setCell _ ⟨ob + 1, 0, none⟩ _ pk (by show ¬ pk = ob + 1; omega)).trans ((Below.heap_setCell _ ⟨pk + 1, 1, none⟩ _ pk (by show ¬ pk = pk + 1; omega)).trans HT1.out)))
   have h3 : Below w.heap.size w ((((w7.setCell ⟨pk + 1, 1, none⟩ (.slice (some ⟨w7.heap.size, 0, none⟩) 2 2)).setCell ⟨ob + 1, 0, none⟩ (.slice (some ⟨pk, 0, none⟩) 1 1)).setCell ⟨ob + 1, 1, none⟩ (.slice (some ⟨w7.heap.size, 0, none⟩) 2 2)).setCell ⟨ob + 1, 2, none⟩ (.bool true)) := set3_below (HB7.out.setCell (p := ⟨pk + 1, 1, none⟩) (by show w.heap.size ≤ pk + 1; omega) _) (g := ob + 1) (by omega) _ _ _
   have hz : ((((w7.setCell ⟨pk + 1, 1, none⟩ (.slice (some ⟨w7.heap.size, 0, none⟩) 2 2)).setCell ⟨ob + 1, 0, none⟩ (.slice (some ⟨pk, 0, none⟩) 1 1)).setCell ⟨ob + 1, 1, none⟩ (.slice (some ⟨w7.heap.size, 0, none⟩) 2 2)).setCell ⟨ob + 1, 2, none⟩ (.bool true)).heap.size = w7.heap.size := by simp
   generalize World.setCell (World.setCell (World.setCell (World.setCell w7 _ _) _ _) _ _) _ _ = WS at ht h3 hz ⊢
   have hs := Sl.new WS 57 2 #[.int .u64 (r : Int), strV n, .int .u64 (r : Int), strV nname]
   rw [hz] at hs
   refine ⟨⟨_, _, _, _, rfl, sl_one (((Below.refl WS.heap.size WS).alloc (Nat.le_refl _) _).block pk (by omega) |>.trans ht), (show Sl _ (w7.heap.size + 1) (.slice (some ⟨w7.heap.size, 0, none⟩) 2 2) 2 ([(r, n), (r, nname)].flatMap clCells) from hs).more (by simp; omega)⟩, h3.alloc h3.size _⟩)
  go_wp2
  refine bodyPost_ret (v := .agg #[.slice (some ⟨pk, 0, none⟩) 1 1, .slice (some ⟨w7.heap.size, 0, none⟩) 2 2, .bool true]) (by simp [results, Tryz.results12, go_sem, r0, r1, r2, fr, ho7, hop, hpo]) rfl ?_
  obtain ⟨h1, h2⟩ := HP.out _ rfl
  exact ⟨_, rfl, h1, h2⟩
end Go.Proofs.YtihmbbkppkgcmaaGreatDoor
