/-
  Part of a proof of RunLoops: contracts of functions that the claim reaches, and plain lemmas.
-/
import Derived.Test.YtoelmnamlnbdhaaGreatDoorKfBR
set_option linter.all false
namespace Go.Proofs.YtoelmnamlnbdhaaGreatDoor
open Go.RowKit
open Hg (GT gl wk isK ndAt kidsK KB)
structure KidBox (w : World) (ab b1 b2 : Nat) (M : Nat → Option Hg.Node) (n : Hg.Node) (ka : Option Addr) (kc : Nat) : Prop where
 ar : ArOk w ab M
 h1 : w.cell? ⟨b1, 0, none⟩ = some (.pointer (some ⟨ab, 0, none⟩))
 h0 : w.cell? ⟨b2, 0, none⟩ = some (.int .u8 (n.kind : Int))
 h2 : w.cell? ⟨b2, 5, none⟩ = some (.slice ka n.kids.length kc)
 lt : b1 < w.heap.size ∧ b2 < w.heap.size
 sl : Sl w w.heap.size (.slice ka n.kids.length kc) n.kids.length (n.kids.map idV)
 len : n.kids.length ≤ 1000000
 top : ∀ k ∈ n.kids, k < idTop
theorem KidBox.below {w w' : World} {ab b1 b2 : Nat} {M : Nat → Option Hg.Node} {n : Hg.Node} {ka : Option Addr} {kc : Nat} (h : KidBox w ab b1 b2 M n ka kc) (hb : Below w.heap.size w w') : KidBox w' ab b1 b2 M n ka kc :=
 ⟨h.ar.below hb, (hb.cell (p := ⟨b1, 0, none⟩) h.lt.1).trans h.h1, (hb.cell (p := ⟨b2, 0, none⟩) h.lt.2).trans h.h0, (hb.cell (p := ⟨b2, 5, none⟩) h.lt.2).trans h.h2, ⟨Nat.lt_of_lt_of_le h.lt.1 hb.size, Nat.lt_of_lt_of_le h.lt.2 hb.size⟩, (h.sl.below hb (Nat.le_refl _)).more hb.size, h.len, h.top⟩
set_option maxHeartbeats 8000000 in
set_option maxRecDepth 100000 in
theorem kind_any (ab b1 b2 : Nat) (M : Nat → Option Hg.Node) (n : Hg.Node) (ka : Option Addr) (kc i : Nat) (w : World) (hK : KidBox w ab b1 b2 M n ka kc) (hi : i < n.kids.length) :
 Calls Tryz.prog 94 #[.int .i64 (i : Int), .pointer (some ⟨b1, 0, none⟩), .pointer (some ⟨b2, 0, none⟩)] w fun e w' => e = .returned (.int .u8 ((ndAt M n.kids[i]).kind : Int)) ∧ Below w.heap.size w w' := by
 have hlen := hK.len
 have c1 := hK.h1
 have c2 := hK.h2
 have hb1 := hK.lt.1
 have hb2 := hK.lt.2
 obtain ⟨bk, ok, rfl, hbk, ck⟩ := (hK.sl).mapAt hi
 have TG := Lib.hid (fun W (h : Below w.heap.size w W) => (hK.ar.below h).getN (hK.top _ (List.getElem_mem hi)))
 generalize n.kids[i] = k at ck TG ⊢
 have HBc := Lib.hid (Below.refl w.heap.size w)
 clear hK
 go_enter Tryz.func94, Tryz.ntmps94
 go_wp2
 have hHeld : (fun w' => w'.cell? ⟨b1, 0, none⟩ = some (.pointer (some ⟨ab, 0, none⟩)) ∧ w'.cell? ⟨b2, 5, none⟩ = some (.slice (some ⟨bk, ok, none⟩) n.kids.length kc) ∧ w'.cell? ⟨bk, ok + i, none⟩ = some (idV k)) w.drew := ⟨c1, c2, ck⟩
 have hHeld0 := hHeld
 clear c1 c2 ck
 refine wp_region_two (fun w' => w'.cell? ⟨b1, 0, none⟩ = some (.pointer (some ⟨ab, 0, none⟩)) ∧ w'.cell? ⟨b2, 5, none⟩ = some (.slice (some ⟨bk, ok, none⟩) n.kids.length kc) ∧ w'.cell? ⟨bk, ok + i, none⟩ = some (idV k)) 12 (by kernel_rfl) ?_
 refine tk 0 ?_ rfl (by kernel_rfl) (fun _ _ _ h => h) ‹_› (by rfl) ?_ ?_
 rotate_left
 · (intro w' hSw; (try dsimp only at hSw); go_simp; try with_reducible rfl)
 try simp only [Act.put, sA, sB, sC, sD, sE, sF]
 refine tk 1 ?_ rfl (by kernel_rfl) (fun _ _ _ h => h) ‹_› (by rfl) ?_ ?_
 rotate_left
 · (intro w' hSw; (try dsimp only at hSw); go_simp; try with_reducible rfl)
 try simp only [Act.put, sA, sB, sC, sD, sE, sF]
 refine tk 2 ?_ rfl (by kernel_rfl) (fun _ _ _ h => h) ‹_› (by rfl) ?_ ?_
 rotate_left
 · (intro w' hSw; (try dsimp only at hSw); go_simp; try with_reducible rfl)
 try simp only [Act.put, sA, sB, sC, sD, sE, sF]
 refine tk 3 ?_ rfl (by kernel_rfl) (fun _ _ _ h => h) ‹_› (by rfl) ?_ ?_
 rotate_left
 · (intro w' hSw; (try dsimp only at hSw); go_simp; try with_reducible rfl)
 try simp only [Act.put, sA, sB, sC, sD, sE, sF]
 refine tk 4 ?_ rfl (by kernel_rfl) (fun _ _ _ h => h) ‹_› (by rfl) ?_ ?_
 rotate_left
 · (intro w' hSw; (try dsimp only at hSw); go_simp; try with_reducible rfl)
 try simp only [Act.put, sA, sB, sC, sD, sE, sF]
 refine tk 5 ?_ rfl (by kernel_rfl) (fun _ _ _ h => h) ‹_› (by rfl) ?_ ?_
 rotate_left
 · (intro w' hSw; (try dsimp only at hSw); go_simp; try with_reducible rfl)
 try simp only [Act.put, sA, sB, sC, sD, sE, sF]
 refine wpAnyT_two (i := 6) (j := 10) rfl rfl (by kernel_rfl) (fun K hK => ?_) (fun K hK => ?_)
 ·
  go_simp
  refine Calls.mono (TG.out _ (by first | exact HBc.out | exact HBc.out.drew | exact HBc.out.drew.drew)) ?_
  rintro e w5 ⟨ka5, kc5, rfl, ho5, hb5⟩
  have HBc := Lib.hid (show Below w.heap.size w w5 from by first | exact HBc.out.trans (hb5.mono HBc.out.size) | exact HBc.out.drew.trans (hb5.mono HBc.out.drew.size))
  clear ho5 hb5
  have hble : w.heap.size ≤ w5.heap.size := by first | exact HBc.out.size | exact Nat.le_refl _
  refine hK.out _ _ (⟨(HBc.out.cell (p := ⟨b1, 0, none⟩) hb1).trans hHeld0.1, (HBc.out.cell (p := ⟨b2, 5, none⟩) hb2).trans hHeld0.2.1, (HBc.out.cell (p := ⟨bk, ok + i, none⟩) hbk).trans hHeld0.2.2⟩) (fun hHeld => ?_)
  clear hK K
  try simp only [Act.put, sA, sB, sC, sD, sE, sF]
  refine tk 7 ?_ rfl (by kernel_rfl) (fun _ _ _ h => h) ‹_› (by rfl) ?_ ?_
  rotate_left
  · (intro w' hSw; (try dsimp only at hSw); go_simp; try with_reducible rfl)
  try simp only [Act.put, sA, sB, sC, sD, sE, sF]
  refine tk 8 ?_ rfl (by kernel_rfl) (fun _ _ _ h => h) ‹_› (by rfl) ?_ ?_
  rotate_left
  · (intro w' hSw; (try dsimp only at hSw); go_simp; try with_reducible rfl)
  try simp only [Act.put, sA, sB, sC, sD, sE, sF]
  refine tk 9 ?_ rfl (by kernel_rfl) (fun _ _ _ h => h) ‹_› (by rfl) ?_ ?_
  rotate_left
  · (intro w' hSw; (try dsimp only at hSw); go_simp; try with_reducible rfl)
  try simp only [Act.put, sA, sB, sC, sD, sE, sF]
  refine wpAnyT_one (i := 10) rfl (by kernel_rfl) (fun K hK => ?_)
  go_simp
  generalize hWa : World.alloc _ _ = Wa
  obtain ⟨hBa, hha, hza⟩ := new_alloc hWa
  have HBc := Lib.hid (show Below w.heap.size w Wa from by first | exact HBc.out.trans (hBa.mono HBc.out.size) | exact HBc.out.drew.trans (hBa.mono HBc.out.drew.size))
  clear hWa hBa
  refine hK.out _ _ (⟨(HBc.out.cell (p := ⟨b1, 0, none⟩) hb1).trans hHeld0.1, (HBc.out.cell (p := ⟨b2, 5, none⟩) hb2).trans hHeld0.2.1, (HBc.out.cell (p := ⟨bk, ok + i, none⟩) hbk).trans hHeld0.2.2⟩) (fun hHeld => ?_)
  clear hK K
  try simp only [Act.put, sA, sB, sC, sD, sE, sF]
  refine wpAnyT_one (i := 11) rfl (by kernel_rfl) (fun K hK => ?_)
  have z2 := fun i => cell_of_row Wa w5.heap.size i _ _ (0, 0) hha
  have y0 := z2 0; have y1 := z2 1; have y2 := z2 2; have y3 := z2 3; have y4 := z2 4; have y5 := z2 5
  simp at y0 y1 y2 y3 y4 y5
  have f2 : ∀ i, Wa.frozen? ⟨w5.heap.size, i, none⟩ = false := fun i => by simp [World.frozen?, hha]
  clear z2
  go_simp
  have hk0 : (World.setCell (World.setCell (World.setCell (World.setCell (World.setCell (World.setCell Wa ⟨w5.heap.size, 0, none⟩ (.int .u8 ((ndAt M k).kind : Int))) ⟨w5.heap.size, 1, none⟩ (strV (ndAt M k).name)) ⟨w5.heap.size, 2, none⟩ (.int .i64 (ndAt M k).num)) ⟨w5.heap.size, 3, none⟩ (.int .u8 ((ndAt M k).type : Int))) ⟨w5.heap.size, 4, none⟩ (.int .u64 ((ndAt M k).ref : Int))) ⟨w5.heap.size, 5, none⟩ (.slice ka5 (ndAt M k).kids.length kc5)).cell? ⟨w5.heap.size, 0, none⟩ = some (.int .u8 ((ndAt M k).kind : Int)) := by simp [go_sem, y0, y1, y2, y3, y4, y5]
  generalize hWb : World.setCell _ _ _ = Wb at hk0 ⊢
  have HBc := Lib.hid (show Below w.heap.size w Wb from hWb ▸ set6_below HBc.out hble _ _ _ _ _ _)
  clear hWb y0 y1 y2 y3 y4 y5 f2 hha
  refine hK.out _ _ (⟨(HBc.out.cell (p := ⟨b1, 0, none⟩) hb1).trans hHeld0.1, (HBc.out.cell (p := ⟨b2, 5, none⟩) hb2).trans hHeld0.2.1, (HBc.out.cell (p := ⟨bk, ok + i, none⟩) hbk).trans hHeld0.2.2⟩) (fun hHeld => ?_)
  clear hK K
  try simp only [Act.put, sA, sB, sC, sD, sE, sF]
  refine wpAnyT_tail (by kernel_rfl) ?_
  simp only [List.drop_succ_cons, List.drop_zero]
  clear hHeld0
  go_wp2
  go_ret
  exact ⟨rfl, HBc.out⟩
 ·
  go_simp
  generalize hWa : World.alloc _ _ = Wa
  obtain ⟨hBa, hha, hza⟩ := new_alloc hWa
  have HBc := Lib.hid (show Below w.heap.size w Wa from by first | exact HBc.out.trans (hBa.mono HBc.out.size) | exact HBc.out.drew.trans (hBa.mono HBc.out.drew.size))
  clear hWa hBa
  refine hK.out _ _ (⟨(HBc.out.cell (p := ⟨b1, 0, none⟩) hb1).trans hHeld0.1, (HBc.out.cell (p := ⟨b2, 5, none⟩) hb2).trans hHeld0.2.1, (HBc.out.cell (p := ⟨bk, ok + i, none⟩) hbk).trans hHeld0.2.2⟩) (fun hHeld => ?_)
  clear hK K
  try simp only [Act.put, sA, sB, sC, sD, sE, sF]
  refine wpAnyT_one (i := 6) rfl (by kernel_rfl) (fun K hK => ?_)
  go_simp
  refine Calls.mono (TG.out _ (by first | exact HBc.out | exact HBc.out.drew | exact HBc.out.drew.drew)) ?_
  rintro e w5 ⟨ka5, kc5, rfl, ho5, hb5⟩
  have hha := (hb5.block _ (Array.getElem?_eq_some_iff.1 hha).1).trans hha
  have HBc := Lib.hid (show Below w.heap.size w w5 from by first | exact HBc.out.trans (hb5.mono HBc.out.size) | exact HBc.out.drew.trans (hb5.mono HBc.out.drew.size))
  clear ho5 hb5
  have hble : w.heap.size ≤ w.heap.size := by first | exact HBc.out.size | exact Nat.le_refl _
  refine hK.out _ _ (⟨(HBc.out.cell (p := ⟨b1, 0, none⟩) hb1).trans hHeld0.1, (HBc.out.cell (p := ⟨b2, 5, none⟩) hb2).trans hHeld0.2.1, (HBc.out.cell (p := ⟨bk, ok + i, none⟩) hbk).trans hHeld0.2.2⟩) (fun hHeld => ?_)
  clear hK K
  try simp only [Act.put, sA, sB, sC, sD, sE, sF]
  refine tk 7 ?_ rfl (by kernel_rfl) (fun _ _ _ h => h) ‹_› (by rfl) ?_ ?_
  rotate_left
  · (intro w' hSw; (try dsimp only at hSw); go_simp; try with_reducible rfl)
  try simp only [Act.put, sA, sB, sC, sD, sE, sF]
  refine tk 8 ?_ rfl (by kernel_rfl) (fun _ _ _ h => h) ‹_› (by rfl) ?_ ?_
  rotate_left
  · (intro w' hSw; (try dsimp only at hSw); go_simp; try with_reducible rfl)
  try simp only [Act.put, sA, sB, sC, sD, sE, sF]
  refine tk 9 ?_ rfl (by kernel_rfl) (fun _ _ _ h => h) ‹_› (by rfl) ?_ ?_
  rotate_left
  · (intro w' hSw; (try dsimp only at hSw); go_simp; try with_reducible rfl)
  try simp only [Act.put, sA, sB, sC, sD, sE, sF]
  refine wpAnyT_one (i := 11) rfl (by kernel_rfl) (fun K hK => ?_)
  have z2 := fun i => cell_of_row w5 w.heap.size i _ _ (0, 0) hha
  have y0 := z2 0; have y1 := z2 1; have y2 := z2 2; have y3 := z2 3; have y4 := z2 4; have y5 := z2 5
  simp at y0 y1 y2 y3 y4 y5
  have f2 : ∀ i, w5.frozen? ⟨w.heap.size, i, none⟩ = false := fun i => by simp [World.frozen?, hha]
  clear z2
  go_simp
  have hk0 : (World.setCell (World.setCell (World.setCell (World.setCell (World.setCell (World.setCell w5 ⟨w.heap.size, 0, none⟩ (.int .u8 ((ndAt M k).kind : Int))) ⟨w.heap.size, 1, none⟩ (strV (ndAt M k).name)) ⟨w.heap.size, 2, none⟩ (.int .i64 (ndAt M k).num)) ⟨w.heap.size, 3, none⟩ (.int .u8 ((ndAt M k).type : Int))) ⟨w.heap.size, 4, none⟩ (.int .u64 ((ndAt M k).ref : Int))) ⟨w.heap.size, 5, none⟩ (.slice ka5 (ndAt M k).kids.length kc5)).cell? ⟨w.heap.size, 0, none⟩ = some (.int .u8 ((ndAt M k).kind : Int)) := by simp [go_sem, y0, y1, y2, y3, y4, y5]
  generalize hWb : World.setCell _ _ _ = Wb at hk0 ⊢
  have HBc := Lib.hid (show Below w.heap.size w Wb from hWb ▸ set6_below HBc.out hble _ _ _ _ _ _)
  clear hWb y0 y1 y2 y3 y4 y5 f2 hha
  refine hK.out _ _ (⟨(HBc.out.cell (p := ⟨b1, 0, none⟩) hb1).trans hHeld0.1, (HBc.out.cell (p := ⟨b2, 5, none⟩) hb2).trans hHeld0.2.1, (HBc.out.cell (p := ⟨bk, ok + i, none⟩) hbk).trans hHeld0.2.2⟩) (fun hHeld => ?_)
  clear hK K
  try simp only [Act.put, sA, sB, sC, sD, sE, sF]
  refine wpAnyT_tail (by kernel_rfl) ?_
  simp only [List.drop_succ_cons, List.drop_zero]
  clear hHeld0
  go_wp2
  go_ret
  exact ⟨rfl, HBc.out⟩
set_option maxHeartbeats 4000000 in
theorem tstmt_any (k : Nat) (w : World) (h : 6 ≤ k ∧ k ≤ 12 ∧ k ≠ 10) : Calls Tryz.prog 98 #[.int .u8 (k : Int)] w fun e w' => e = .returned (.bool true) ∧ w = w' := by
 obtain ⟨h1, h2, h3⟩ := h
 have q1 : decide ((6 : Int) ≤ (k : Int)) = true := by simpa using (by omega : (6 : Int) ≤ (k : Int))
 have q2 : decide ((k : Int) ≤ (12 : Int)) = true := by simpa using (by omega : (k : Int) ≤ (12 : Int))
 have q4 : decide (6 ≤ k) = true := by simpa using h1
 have q5 : decide (k ≤ 12) = true := by simpa using h2
 have q3 : ((k : Int) != 10) = true := by simp; omega
 clear h1 h2 h3
 go_enter Tryz.func98, Tryz.ntmps98
 go_wp2
 go_ret
 exact ⟨rfl, rfl⟩
set_option maxHeartbeats 4000000 in
theorem texpr_any (k : Nat) (w : World) (h : 13 ≤ k ∧ k ≤ 20) : Calls Tryz.prog 99 #[.int .u8 (k : Int)] w fun e w' => e = .returned (.bool true) ∧ w = w' := by
 obtain ⟨h1, h2⟩ := h
 have q1 : decide ((13 : Int) ≤ (k : Int)) = true := by simpa using (by omega : (13 : Int) ≤ (k : Int))
 have q2 : decide ((k : Int) ≤ (20 : Int)) = true := by simpa using (by omega : (k : Int) ≤ (20 : Int))
 have q4 : decide (13 ≤ k) = true := by simpa using h1
 have q5 : decide (k ≤ 20) = true := by simpa using h2
 clear h1 h2
 go_enter Tryz.func99, Tryz.ntmps99
 go_wp2
 go_ret
 exact ⟨rfl, rfl⟩
set_option maxHeartbeats 4000000 in
theorem only_any (k qb : Nat) (w : World) (h : w.cell? ⟨qb, 0, none⟩ = some (.int .u8 (k : Int))) : Calls Tryz.prog 97 #[.int .u8 (k : Int), .pointer (some ⟨qb, 0, none⟩)] w fun e w' => e = .returned (.bool true) ∧ w = w' := by
 go_enter Tryz.func97, Tryz.ntmps97
 go_wp2
 go_ret
 exact ⟨by simp, rfl⟩
set_option maxHeartbeats 4000000 in
set_option maxRecDepth 100000 in
theorem allS_any (ab b1 b2 fb : Nat) (M : Nat → Option Hg.Node) (n : Hg.Node) (ka : Option Addr) (kc a0 b0 : Nat) (w : World) (hK : KidBox w ab b1 b2 M n ka kc) (hf : w.cell? ⟨fb, 0, none⟩ = some (.func (.func 94) #[] #[.pointer (some ⟨b1, 0, none⟩), .pointer (some ⟨b2, 0, none⟩)])) (hfl : fb < w.heap.size) (hle : b0 ≤ n.kids.length) (hall : ∀ i (hi : i < n.kids.length), a0 ≤ i → i < b0 → 6 ≤ (ndAt M n.kids[i]).kind ∧ (ndAt M n.kids[i]).kind ≤ 12 ∧ (ndAt M n.kids[i]).kind ≠ 10) :
 Calls Tryz.prog 95 #[.int .i64 (a0 : Int), .int .i64 (b0 : Int), .func (.func 98) #[] #[], .pointer (some ⟨fb, 0, none⟩)] w fun e w' => e = .returned (.bool true) ∧ Below w.heap.size w w' := by
 have HK := Lib.hid hK
 have HF := Lib.hid hf
 have HALL := Lib.hid hall
 have hln := hK.len
 clear hK hf hall
 go_enter Tryz.func95, Tryz.ntmps95
 go_wp2
 go_loopw [8] (fun p wr => ∃ i : Nat, p = .int .i64 (i : Int) ∧ a0 ≤ i ∧ (i ≤ b0 ∨ i = a0) ∧ Below w.heap.size w wr) (fun p wr => b0 - (intOf p).toNat)
 case atStart => exact ⟨a0, rfl, Nat.le_refl _, .inr rfl, Below.refl _ _⟩
 case round =>
  obtain ⟨i, rfl, hi1, hi2, hb⟩ := hrel
  have HB := Lib.hid hb
  have hzr := hb.size
  by_cases hlt : i < b0
  ·
   have hil : i < n.kids.length := by omega
   have cf : wr.cell? ⟨fb, 0, none⟩ = some (.func (.func 94) #[] #[.pointer (some ⟨b1, 0, none⟩), .pointer (some ⟨b2, 0, none⟩)]) := (hb.cell hfl).trans HF.out
   have TK := Lib.hid (kind_any ab b1 b2 M n ka kc i wr (HK.out.below hb) hil)
   have hkk := HALL.out i hil hi1 hlt
   generalize (ndAt M n.kids[i]).kind = k at TK hkk
   have HKK := Lib.hid hkk
   clear hb hkk
   go_wp2_with fail
   refine TK.out.mono ?_
   rintro e w1 ⟨rfl, hb1⟩
   have HB1 := Lib.hid (HB.out.trans (hb1.mono hzr))
   clear TK hb1
   skip
   go_wp2_with fail
   refine (tstmt_any k _ HKK.out).mono ?_
   rintro e w2 ⟨rfl, rfl⟩
   go_wp2
   go_roundw
   case rel => exact ⟨i + 1, by go_num, by omega, by omega, HB1.out⟩
   case measure => simp [intOf]; omega
  ·
   go_wp2
   go_ret
   exact ⟨rfl, HB.out⟩
set_option maxHeartbeats 4000000 in
set_option maxRecDepth 100000 in
theorem allE_any (ab b1 b2 fb : Nat) (M : Nat → Option Hg.Node) (n : Hg.Node) (ka : Option Addr) (kc a0 b0 : Nat) (w : World) (hK : KidBox w ab b1 b2 M n ka kc) (hf : w.cell? ⟨fb, 0, none⟩ = some (.func (.func 94) #[] #[.pointer (some ⟨b1, 0, none⟩), .pointer (some ⟨b2, 0, none⟩)])) (hfl : fb < w.heap.size) (hle : b0 ≤ n.kids.length) (hall : ∀ i (hi : i < n.kids.length), a0 ≤ i → i < b0 → 13 ≤ (ndAt M n.kids[i]).kind ∧ (ndAt M n.kids[i]).kind ≤ 20) :
 Calls Tryz.prog 95 #[.int .i64 (a0 : Int), .int .i64 (b0 : Int), .func (.func 99) #[] #[], .pointer (some ⟨fb, 0, none⟩)] w fun e w' => e = .returned (.bool true) ∧ Below w.heap.size w w' := by
 have HK := Lib.hid hK
 have HF := Lib.hid hf
 have HALL := Lib.hid hall
 have hln := hK.len
 clear hK hf hall
 go_enter Tryz.func95, Tryz.ntmps95
 go_wp2
 go_loopw [8] (fun p wr => ∃ i : Nat, p = .int .i64 (i : Int) ∧ a0 ≤ i ∧ (i ≤ b0 ∨ i = a0) ∧ Below w.heap.size w wr) (fun p wr => b0 - (intOf p).toNat)
 case atStart => exact ⟨a0, rfl, Nat.le_refl _, .inr rfl, Below.refl _ _⟩
 case round =>
  obtain ⟨i, rfl, hi1, hi2, hb⟩ := hrel
  have HB := Lib.hid hb
  have hzr := hb.size
  by_cases hlt : i < b0
  ·
   have hil : i < n.kids.length := by omega
   have cf : wr.cell? ⟨fb, 0, none⟩ = some (.func (.func 94) #[] #[.pointer (some ⟨b1, 0, none⟩), .pointer (some ⟨b2, 0, none⟩)]) := (hb.cell hfl).trans HF.out
   have TK := Lib.hid (kind_any ab b1 b2 M n ka kc i wr (HK.out.below hb) hil)
   have hkk := HALL.out i hil hi1 hlt
   generalize (ndAt M n.kids[i]).kind = k at TK hkk
   have HKK := Lib.hid hkk
   clear hb hkk
   go_wp2_with fail
   refine TK.out.mono ?_
   rintro e w1 ⟨rfl, hb1⟩
   have HB1 := Lib.hid (HB.out.trans (hb1.mono hzr))
   clear TK hb1
   skip
   go_wp2_with fail
   refine (texpr_any k _ HKK.out).mono ?_
   rintro e w2 ⟨rfl, rfl⟩
   go_wp2
   go_roundw
   case rel => exact ⟨i + 1, by go_num, by omega, by omega, HB1.out⟩
   case measure => simp [intOf]; omega
  ·
   go_wp2
   go_ret
   exact ⟨rfl, HB.out⟩
set_option maxHeartbeats 4000000 in
set_option maxRecDepth 100000 in
theorem allO_any (ab b1 b2 fb : Nat) (M : Nat → Option Hg.Node) (n : Hg.Node) (ka : Option Addr) (kc a0 b0 : Nat) (qb k0 : Nat) (w : World) (hK : KidBox w ab b1 b2 M n ka kc) (hf : w.cell? ⟨fb, 0, none⟩ = some (.func (.func 94) #[] #[.pointer (some ⟨b1, 0, none⟩), .pointer (some ⟨b2, 0, none⟩)])) (hfl : fb < w.heap.size) (hq : w.cell? ⟨qb, 0, none⟩ = some (.int .u8 (k0 : Int)) ∧ qb < w.heap.size) (hle : b0 ≤ n.kids.length) (hall : ∀ i (hi : i < n.kids.length), a0 ≤ i → i < b0 → (ndAt M n.kids[i]).kind = k0) :
 Calls Tryz.prog 95 #[.int .i64 (a0 : Int), .int .i64 (b0 : Int), .func (.func 97) #[] #[.pointer (some ⟨qb, 0, none⟩)], .pointer (some ⟨fb, 0, none⟩)] w fun e w' => e = .returned (.bool true) ∧ Below w.heap.size w w' := by
 have HK := Lib.hid hK
 have HF := Lib.hid hf
 have HALL := Lib.hid hall
 have hln := hK.len
 clear hK hf hall
 go_enter Tryz.func95, Tryz.ntmps95
 go_wp2
 go_loopw [8] (fun p wr => ∃ i : Nat, p = .int .i64 (i : Int) ∧ a0 ≤ i ∧ (i ≤ b0 ∨ i = a0) ∧ Below w.heap.size w wr) (fun p wr => b0 - (intOf p).toNat)
 case atStart => exact ⟨a0, rfl, Nat.le_refl _, .inr rfl, Below.refl _ _⟩
 case round =>
  obtain ⟨i, rfl, hi1, hi2, hb⟩ := hrel
  have HB := Lib.hid hb
  have hzr := hb.size
  by_cases hlt : i < b0
  ·
   have hil : i < n.kids.length := by omega
   have cf : wr.cell? ⟨fb, 0, none⟩ = some (.func (.func 94) #[] #[.pointer (some ⟨b1, 0, none⟩), .pointer (some ⟨b2, 0, none⟩)]) := (hb.cell hfl).trans HF.out
   have TK := Lib.hid (kind_any ab b1 b2 M n ka kc i wr (HK.out.below hb) hil)
   have hkk := HALL.out i hil hi1 hlt
   generalize (ndAt M n.kids[i]).kind = k at TK hkk
   have HKK := Lib.hid hkk
   clear hb hkk
   go_wp2_with fail
   refine TK.out.mono ?_
   rintro e w1 ⟨rfl, hb1⟩
   have HB1 := Lib.hid (HB.out.trans (hb1.mono hzr))
   clear TK hb1
   (have hk0 := HKK.out; subst hk0; have TO := only_any k qb w1 ((HB1.out.cell hq.2).trans hq.1))
   go_wp2_with fail
   refine (TO).mono ?_
   rintro e w2 ⟨rfl, rfl⟩
   go_wp2
   go_roundw
   case rel => exact ⟨i + 1, by go_num, by omega, by omega, HB1.out⟩
   case measure => simp [intOf]; omega
  ·
   go_wp2
   go_ret
   exact ⟨rfl, HB.out⟩
end Go.Proofs.YtoelmnamlnbdhaaGreatDoor
namespace Hg
def stP (k : Nat) : Prop := 6 ≤ k ∧ k ≤ 12 ∧ k ≠ 10
def exP (k : Nat) : Prop := 13 ≤ k ∧ k ≤ 20
instance (k : Nat) : Decidable (stP k) := by unfold stP; infer_instance
instance (k : Nat) : Decidable (exP k) := by unfold exP; infer_instance
def kk (M : Nat → Option Node) (n : Node) (i : Nat) : Nat := (ndAt M (n.kids.getD i 0)).kind
def KidsOk (M : Nat → Option Node) (n : Node) : Prop :=
 (n.kind = 1 ∧ ∀ i, i < n.kids.length → kk M n i = 2) ∨
 (n.kind = 2 ∧ ∀ i, i < n.kids.length → kk M n i = 3) ∨
 (n.kind = 3 ∧ 0 < n.kids.length ∧ (∀ i, i < n.kids.length - 1 → kk M n i = 4) ∧ kk M n (n.kids.length - 1) = 5) ∨
 (n.kind = 5 ∧ n.kids.length = 0) ∨
 (n.kind = 5 ∧ 0 < n.kids.length ∧ (∀ i, i < n.kids.length - 1 → stP (kk M n i)) ∧ (kk M n (n.kids.length - 1) = 10 ∨ stP (kk M n (n.kids.length - 1)))) ∨
 (n.kind = 8 ∧ n.kids.length = 3 ∧ exP (kk M n 0) ∧ kk M n 1 = 5 ∧ kk M n 2 = 5) ∨
 (n.kind = 9 ∧ n.kids.length = 2 ∧ exP (kk M n 0) ∧ kk M n 1 = 5) ∨
 (n.kind = 12 ∧ n.kids.length = 1 ∧ kk M n 0 = 19) ∨
 ((n.kind = 6 ∨ n.kind = 7 ∨ n.kind = 10 ∨ n.kind = 11) ∧ n.kids.length = 1 ∧ exP (kk M n 0)) ∨
 (n.kind = 18 ∧ n.kids.length = 2 ∧ exP (kk M n 0) ∧ exP (kk M n 1)) ∨
 (n.kind = 19 ∧ ∀ i, i < n.kids.length → exP (kk M n i)) ∨
 ((n.kind = 4 ∨ n.kind = 13 ∨ n.kind = 14 ∨ n.kind = 15) ∧ n.kids.length = 0)
theorem kk_at (M : Nat → Option Node) (n : Node) (i : Nat) (h : i < n.kids.length) : (ndAt M n.kids[i]).kind = kk M n i := by
 unfold kk
 simp [List.getD, List.getElem?_eq_getElem h]
end Hg
namespace Go.Proofs.YtoelmnamlnbdhaaGreatDoor
open Go.RowKit
open Hg (GT gl wk isK ndAt kidsK KB kk kk_at stP exP KidsOk)
set_option maxHeartbeats 4000000 in
theorem mk_any (k : Nat) (w : World) : Calls Tryz.prog 96 #[.int .u8 (k : Int)] w fun e w' => e = .returned (.func (.func 97) #[] #[.pointer (some ⟨w.heap.size, 0, none⟩)]) ∧ w' = w.alloc (.cells #[.int .u8 (k : Int)] 5) := by
 go_enter Tryz.func96, Tryz.ntmps96
 go_wp2
 go_ret
 exact ⟨rfl, rfl⟩
set_option maxHeartbeats 4000000 in
theorem all0_any (x : Value) (fb : Nat) (w : World) : Calls Tryz.prog 95 #[.int .i64 0, .int .i64 (-1), x, .pointer (some ⟨fb, 0, none⟩)] w fun e w' => e = .returned (.bool true) ∧ w = w' := by
 go_enter Tryz.func95, Tryz.ntmps95
 go_wp2
 refine wp_loop_once ?_
 go_wp2
 go_ret
 exact ⟨rfl, rfl⟩
@[reducible] def kfV (b1 b2 : Nat) : Value := .func (.func 94) #[] #[.pointer (some ⟨b1, 0, none⟩), .pointer (some ⟨b2, 0, none⟩)]
structure KStart (w W0 : World) (ab : Nat) (M : Nat → Option Hg.Node) (n : Hg.Node) (ka : Option Addr) (kc : Nat) : Prop where
 kb : KidBox W0 ab w.heap.size (w.heap.size + 1) M n ka kc
 cf : W0.cell? ⟨w.heap.size + 2, 0, none⟩ = some (kfV w.heap.size (w.heap.size + 1))
 lf : w.heap.size + 2 < W0.heap.size
 be : Below w.heap.size w W0
theorem KStart.below {w W0 W1 : World} {ab : Nat} {M : Nat → Option Hg.Node} {n : Hg.Node} {ka : Option Addr} {kc : Nat} (h : KStart w W0 ab M n ka kc) (hb : Below W0.heap.size W0 W1) : KStart w W1 ab M n ka kc :=
 ⟨h.kb.below hb, (hb.cell (p := ⟨w.heap.size + 2, 0, none⟩) h.lf).trans h.cf, Nat.lt_of_lt_of_le h.lf hb.size, h.be.trans (hb.mono h.be.size)⟩
theorem kstart {w : World} {ab : Nat} {M : Nat → Option Hg.Node} {n : Hg.Node} {ka : Option Addr} {kc : Nat} (hA : ArOk w ab M)
 (hs : Sl w w.heap.size (.slice ka n.kids.length kc) n.kids.length (n.kids.map idV)) (hl : n.kids.length ≤ 1000000) (hk : ∀ k ∈ n.kids, k < idTop) :
 KStart w (((w.alloc (.cells #[.pointer (some ⟨ab, 0, none⟩)] 24)).alloc (.cells (ndCells n ka kc) 70)).alloc (.cells #[kfV w.heap.size (w.heap.size + 1)] 140)) ab M n ka kc := by
 have h0 := heap_alloc_new w (.cells #[.pointer (some ⟨ab, 0, none⟩)] 24)
 have b0 : Below w.heap.size w (w.alloc (.cells #[.pointer (some ⟨ab, 0, none⟩)] 24)) := (Below.refl _ _).alloc (Nat.le_refl _) _
 have z0 : (w.alloc (.cells #[.pointer (some ⟨ab, 0, none⟩)] 24)).heap.size = w.heap.size + 1 := by simp
 generalize w.alloc (.cells #[.pointer (some ⟨ab, 0, none⟩)] 24) = A at *
 have h1 := heap_alloc_new A (.cells (ndCells n ka kc) 70)
 have b1 : Below A.heap.size A (A.alloc (.cells (ndCells n ka kc) 70)) := (Below.refl _ _).alloc (Nat.le_refl _) _
 have z1 : (A.alloc (.cells (ndCells n ka kc) 70)).heap.size = w.heap.size + 2 := by simp [z0]
 generalize A.alloc (.cells (ndCells n ka kc) 70) = B at *
 have h2 := heap_alloc_new B (.cells #[kfV w.heap.size (w.heap.size + 1)] 140)
 have b2 : Below B.heap.size B (B.alloc (.cells #[kfV w.heap.size (w.heap.size + 1)] 140)) := (Below.refl _ _).alloc (Nat.le_refl _) _
 have z2 : (B.alloc (.cells #[kfV w.heap.size (w.heap.size + 1)] 140)).heap.size = w.heap.size + 3 := by simp [z1]
 generalize B.alloc (.cells #[kfV w.heap.size (w.heap.size + 1)] 140) = C at *
 have hb : Below w.heap.size w C := b0.trans ((b1.mono (by omega)).trans (b2.mono (by omega)))
 have k0 : C.heap[w.heap.size]? = _ := (b2.block _ (by omega)).trans ((b1.block _ (by omega)).trans h0)
 have k1 : C.heap[w.heap.size + 1]? = _ := (b2.block _ (by omega)).trans (z0 ▸ h1)
 have k2 : C.heap[w.heap.size + 2]? = _ := z1 ▸ h2
 have c1 := cell_of_row C (w.heap.size + 1) 0 _ _ (0, 0) k1
 have c5 := cell_of_row C (w.heap.size + 1) 5 _ _ (0, 0) k1
 exact ⟨⟨hA.below hb, cell_of_row C w.heap.size 0 _ _ (0, 0) k0, c1, c5, by omega, (hs.below hb (Nat.le_refl _)).more hb.size, hl, hk⟩, cell_of_row C (w.heap.size + 2) 0 _ _ (0, 0) k2, by omega, hb⟩
@[local go_sem] theorem run_store_fn {P : Program} {w : World} {a : Addr} {m : Mode} (fn : Fn) (first captured : Array Value) : (store a (.func fn first captured) m).run P w = stored P w a (.func fn first captured) m := run_store P w a _ m rfl
@[local go_sem] theorem run_store_nilFn {P : Program} {w : World} {a : Addr} {m : Mode} : (store a .nilFunc m).run P w = stored P w a .nilFunc m := run_store P w a _ m rfl
set_option maxHeartbeats 16000000 in
set_option maxRecDepth 100000 in
theorem tkids_any (ab : Nat) (M : Nat → Option Hg.Node) (n : Hg.Node) (ka : Option Addr) (kc : Nat) (w : World) (hA : ArOk w ab M)
 (hs : Sl w w.heap.size (.slice ka n.kids.length kc) n.kids.length (n.kids.map idV)) (hl : n.kids.length ≤ 1000000) (hk : ∀ k ∈ n.kids, k < idTop) (hP : KidsOk M n) :
 Calls Tryz.prog 57 #[.pointer (some ⟨ab, 0, none⟩), ndV n ka kc] w fun e w' => e = .returned (.bool true) ∧ Below w.heap.size w w' := by
 obtain ⟨kd, nm, nu, ty, rf, ks⟩ := n
 have KS := Lib.hid (kstart hA hs hl hk)
 unfold KidsOk at hP
 dsimp only at hP hl KS
 clear hA hs hk
 rcases hP with ⟨rfl, hall⟩ | ⟨rfl, hall⟩ | ⟨rfl, hpos, hall, hlast⟩ | ⟨rfl, h0⟩ | ⟨rfl, hpos, hall, hlast⟩ | ⟨rfl, h3, e0, k1, k2⟩ | ⟨rfl, h2, e0, k1⟩ | ⟨rfl, h1, k0⟩ | ⟨hkd, h1, e0⟩ | ⟨rfl, h2, e0, e1⟩ | ⟨rfl, hall⟩ | ⟨hkd, h0⟩
 ·
  skip
  go_enter Tryz.func57, Tryz.ntmps57
  go_wp2_with fail
  have hks := Lib.hid (KS.out)
  clear KS
  generalize hW0 : World.alloc (World.alloc (World.alloc w _) _) _ = W0
  have HKS := Lib.hid (show KStart w W0 ab M ⟨1, nm, nu, ty, rf, ks⟩ ka kc from hW0 ▸ hks.out)
  clear hks hW0
  have cf := HKS.out.cf
  replace cf : World.cell? _ ⟨w.heap.size + 1 + 1, 0, none⟩ = some (.func (.func 94) #[] #[.pointer (some ⟨w.heap.size, 0, none⟩), .pointer (some ⟨w.heap.size + 1, 0, none⟩)]) := cf
  refine (mk_any 2 _).mono ?_
  rintro e w1 ⟨rfl, rfl⟩
  have HKQ := Lib.hid (HKS.out.below ((Below.refl _ _).alloc (Nat.le_refl _) (.cells #[.int .u8 ((2 : Nat) : Int)] 5)))
  have hcq := cell_of_row _ _ 0 _ _ (0, 0) (heap_alloc_new W0 (.cells #[.int .u8 ((2 : Nat) : Int)] 5))
  have hqz : (W0).heap.size < ((W0).alloc (.cells #[.int .u8 ((2 : Nat) : Int)] 5)).heap.size := by simp
  clear cf
  go_wp2_with fail
  refine (allO_any ab w.heap.size (w.heap.size + 1) (w.heap.size + 2) M _ ka kc 0 ks.length (W0).heap.size 2 _ HKQ.out.kb HKQ.out.cf HKQ.out.lf ⟨hcq, hqz⟩ (show ks.length ≤ ks.length by omega) (fun i hi h1 h2 => by rw [kk_at]; exact hall i (by simpa using hi))).mono ?_
  rintro e w2 ⟨rfl, hb2⟩
  have HKS := Lib.hid (HKQ.out.below hb2)
  have cf := HKS.out.cf
  replace cf : World.cell? _ ⟨w.heap.size + 1 + 1, 0, none⟩ = some (.func (.func 94) #[] #[.pointer (some ⟨w.heap.size, 0, none⟩), .pointer (some ⟨w.heap.size + 1, 0, none⟩)]) := cf
  clear HKQ hcq hb2 hqz
  go_wp2
  go_ret
  exact ⟨rfl, HKS.out.be⟩
 ·
  skip
  go_enter Tryz.func57, Tryz.ntmps57
  go_wp2_with fail
  have hks := Lib.hid (KS.out)
  clear KS
  generalize hW0 : World.alloc (World.alloc (World.alloc w _) _) _ = W0
  have HKS := Lib.hid (show KStart w W0 ab M ⟨2, nm, nu, ty, rf, ks⟩ ka kc from hW0 ▸ hks.out)
  clear hks hW0
  have cf := HKS.out.cf
  replace cf : World.cell? _ ⟨w.heap.size + 1 + 1, 0, none⟩ = some (.func (.func 94) #[] #[.pointer (some ⟨w.heap.size, 0, none⟩), .pointer (some ⟨w.heap.size + 1, 0, none⟩)]) := cf
  refine (mk_any 3 _).mono ?_
  rintro e w1 ⟨rfl, rfl⟩
  have HKQ := Lib.hid (HKS.out.below ((Below.refl _ _).alloc (Nat.le_refl _) (.cells #[.int .u8 ((3 : Nat) : Int)] 5)))
  have hcq := cell_of_row _ _ 0 _ _ (0, 0) (heap_alloc_new W0 (.cells #[.int .u8 ((3 : Nat) : Int)] 5))
  have hqz : (W0).heap.size < ((W0).alloc (.cells #[.int .u8 ((3 : Nat) : Int)] 5)).heap.size := by simp
  clear cf
  go_wp2_with fail
  refine (allO_any ab w.heap.size (w.heap.size + 1) (w.heap.size + 2) M _ ka kc 0 ks.length (W0).heap.size 3 _ HKQ.out.kb HKQ.out.cf HKQ.out.lf ⟨hcq, hqz⟩ (show ks.length ≤ ks.length by omega) (fun i hi h1 h2 => by rw [kk_at]; exact hall i (by simpa using hi))).mono ?_
  rintro e w2 ⟨rfl, hb2⟩
  have HKS := Lib.hid (HKQ.out.below hb2)
  have cf := HKS.out.cf
  replace cf : World.cell? _ ⟨w.heap.size + 1 + 1, 0, none⟩ = some (.func (.func 94) #[] #[.pointer (some ⟨w.heap.size, 0, none⟩), .pointer (some ⟨w.heap.size + 1, 0, none⟩)]) := cf
  clear HKQ hcq hb2 hqz
  go_wp2
  go_ret
  exact ⟨rfl, HKS.out.be⟩
 ·
  skip
  obtain ⟨m, hm⟩ : ∃ m, ks.length = m + 1 := ⟨ks.length - 1, by omega⟩
  have hm1 : ks.length - 1 = m := by omega
  rw [hm1] at hall hlast
  have hsub : IntKind.i64.wrap ((ks.length : Int) - 1) = (m : Int) := by rw [show ((ks.length : Int) - 1) = (m : Int) from by omega]; exact IntWalk.i64_in _ (by omega)
  have HM := Lib.hid hm
  have hml : m < ks.length := by omega
  have hp1 : decide ((0 : Int) < (ks.length : Int)) = true := by simpa using (by omega : (0 : Int) < (ks.length : Int))
  have hp2 : decide (0 < ks.length) = true := by simpa using hpos
  have hp3 : ((ks.length : Int) == 0) = false := by rw [beq_eq_false_iff_ne]; omega
  clear hm hm1
  go_enter Tryz.func57, Tryz.ntmps57
  go_wp2_with fail
  have hks := Lib.hid (KS.out)
  clear KS
  generalize hW0 : World.alloc (World.alloc (World.alloc w _) _) _ = W0
  have HKS := Lib.hid (show KStart w W0 ab M ⟨3, nm, nu, ty, rf, ks⟩ ka kc from hW0 ▸ hks.out)
  clear hks hW0
  have cf := HKS.out.cf
  replace cf : World.cell? _ ⟨w.heap.size + 1 + 1, 0, none⟩ = some (.func (.func 94) #[] #[.pointer (some ⟨w.heap.size, 0, none⟩), .pointer (some ⟨w.heap.size + 1, 0, none⟩)]) := cf
  refine (mk_any 4 _).mono ?_
  rintro e w1 ⟨rfl, rfl⟩
  have HKQ := Lib.hid (HKS.out.below ((Below.refl _ _).alloc (Nat.le_refl _) (.cells #[.int .u8 ((4 : Nat) : Int)] 5)))
  have hcq := cell_of_row _ _ 0 _ _ (0, 0) (heap_alloc_new W0 (.cells #[.int .u8 ((4 : Nat) : Int)] 5))
  have hqz : (W0).heap.size < ((W0).alloc (.cells #[.int .u8 ((4 : Nat) : Int)] 5)).heap.size := by simp
  clear cf
  go_wp2_with fail
  refine (allO_any ab w.heap.size (w.heap.size + 1) (w.heap.size + 2) M _ ka kc 0 m (W0).heap.size 4 _ HKQ.out.kb HKQ.out.cf HKQ.out.lf ⟨hcq, hqz⟩ (show m ≤ ks.length by omega) (fun i hi h1 h2 => by rw [kk_at]; exact hall i (by omega))).mono ?_
  rintro e w2 ⟨rfl, hb2⟩
  have HKS := Lib.hid (HKQ.out.below hb2)
  have cf := HKS.out.cf
  replace cf : World.cell? _ ⟨w.heap.size + 1 + 1, 0, none⟩ = some (.func (.func 94) #[] #[.pointer (some ⟨w.heap.size, 0, none⟩), .pointer (some ⟨w.heap.size + 1, 0, none⟩)]) := cf
  clear HKQ hcq hb2 hqz
  go_wp2_with fail
  have TK := kind_any ab w.heap.size (w.heap.size + 1) M _ ka kc m _ HKS.out.kb (show m < ks.length by omega)
  rw [kk_at, hlast] at TK
  refine TK.mono ?_
  rintro e w5 ⟨rfl, hbk⟩
  clear TK
  have HKS := Lib.hid (HKS.out.below hbk)
  have cf := HKS.out.cf
  replace cf : World.cell? _ ⟨w.heap.size + 1 + 1, 0, none⟩ = some (.func (.func 94) #[] #[.pointer (some ⟨w.heap.size, 0, none⟩), .pointer (some ⟨w.heap.size + 1, 0, none⟩)]) := cf
  clear hbk
  go_wp2
  go_ret
  exact ⟨rfl, HKS.out.be⟩
 ·
  skip
  have hp3 : ((ks.length : Int) == 0) = true := by simp [h0]
  have hsub : IntKind.i64.wrap ((ks.length : Int) - 1) = -1 := by rw [h0]; decide
  have hl0 := Lib.hid h0
  clear h0
  go_enter Tryz.func57, Tryz.ntmps57
  go_wp2_with fail
  have hks := Lib.hid (KS.out)
  clear KS
  generalize hW0 : World.alloc (World.alloc (World.alloc w _) _) _ = W0
  have HKS := Lib.hid (show KStart w W0 ab M ⟨5, nm, nu, ty, rf, ks⟩ ka kc from hW0 ▸ hks.out)
  clear hks hW0
  have cf := HKS.out.cf
  replace cf : World.cell? _ ⟨w.heap.size + 1 + 1, 0, none⟩ = some (.func (.func 94) #[] #[.pointer (some ⟨w.heap.size, 0, none⟩), .pointer (some ⟨w.heap.size + 1, 0, none⟩)]) := cf
  refine (all0_any _ _ _).mono ?_
  rintro e w1 ⟨rfl, rfl⟩
  go_wp2
  go_ret
  exact ⟨rfl, HKS.out.be⟩
 ·
  skip
  obtain ⟨m, hm⟩ : ∃ m, ks.length = m + 1 := ⟨ks.length - 1, by omega⟩
  have hm1 : ks.length - 1 = m := by omega
  rw [hm1] at hall hlast
  have hsub : IntKind.i64.wrap ((ks.length : Int) - 1) = (m : Int) := by rw [show ((ks.length : Int) - 1) = (m : Int) from by omega]; exact IntWalk.i64_in _ (by omega)
  have HM := Lib.hid hm
  have hml : m < ks.length := by omega
  have hp1 : decide ((0 : Int) < (ks.length : Int)) = true := by simpa using (by omega : (0 : Int) < (ks.length : Int))
  have hp2 : decide (0 < ks.length) = true := by simpa using hpos
  have hp3 : ((ks.length : Int) == 0) = false := by rw [beq_eq_false_iff_ne]; omega
  clear hm hm1
  go_enter Tryz.func57, Tryz.ntmps57
  go_wp2_with fail
  have hks := Lib.hid (KS.out)
  clear KS
  generalize hW0 : World.alloc (World.alloc (World.alloc w _) _) _ = W0
  have HKS := Lib.hid (show KStart w W0 ab M ⟨5, nm, nu, ty, rf, ks⟩ ka kc from hW0 ▸ hks.out)
  clear hks hW0
  have cf := HKS.out.cf
  replace cf : World.cell? _ ⟨w.heap.size + 1 + 1, 0, none⟩ = some (.func (.func 94) #[] #[.pointer (some ⟨w.heap.size, 0, none⟩), .pointer (some ⟨w.heap.size + 1, 0, none⟩)]) := cf
  refine (allS_any ab w.heap.size (w.heap.size + 1) (w.heap.size + 2) M _ ka kc 0 m _ HKS.out.kb HKS.out.cf HKS.out.lf (show m ≤ ks.length by omega) (fun i hi h1 h2 => by rw [kk_at]; exact hall i (by omega))).mono ?_
  rintro e w2 ⟨rfl, hb2⟩
  have HKS := Lib.hid (HKS.out.below hb2)
  have cf := HKS.out.cf
  replace cf : World.cell? _ ⟨w.heap.size + 1 + 1, 0, none⟩ = some (.func (.func 94) #[] #[.pointer (some ⟨w.heap.size, 0, none⟩), .pointer (some ⟨w.heap.size + 1, 0, none⟩)]) := cf
  clear hb2
  rcases hlast with hlast | hlast
  ·
   go_wp2_with fail
   have TK := kind_any ab w.heap.size (w.heap.size + 1) M _ ka kc m _ HKS.out.kb (show m < ks.length by omega)
   rw [kk_at, hlast] at TK
   refine TK.mono ?_
   rintro e w5 ⟨rfl, hbk⟩
   clear TK
   have HKS := Lib.hid (HKS.out.below hbk)
   have cf := HKS.out.cf
   replace cf : World.cell? _ ⟨w.heap.size + 1 + 1, 0, none⟩ = some (.func (.func 94) #[] #[.pointer (some ⟨w.heap.size, 0, none⟩), .pointer (some ⟨w.heap.size + 1, 0, none⟩)]) := cf
   clear hbk
   go_wp2
   go_ret
   exact ⟨rfl, HKS.out.be⟩
  ·
   go_wp2_with fail
   obtain ⟨q7, hq7⟩ : ∃ q, kk M ⟨5, nm, nu, ty, rf, ks⟩ m = q := ⟨_, rfl⟩
   rw [hq7] at hlast
   have he7 := Lib.hid hlast
   have hqq := hq7
   have HQ7 := Lib.hid hq7
   clear hq7
   have TK := kind_any ab w.heap.size (w.heap.size + 1) M _ ka kc m _ HKS.out.kb (show m < ks.length by omega)
   rw [kk_at, hqq] at TK
   refine TK.mono ?_
   rintro e w7 ⟨rfl, hbk⟩
   clear TK
   have HKS := Lib.hid (HKS.out.below hbk)
   have cf := HKS.out.cf
   replace cf : World.cell? _ ⟨w.heap.size + 1 + 1, 0, none⟩ = some (.func (.func 94) #[] #[.pointer (some ⟨w.heap.size, 0, none⟩), .pointer (some ⟨w.heap.size + 1, 0, none⟩)]) := cf
   clear hbk
   clear hqq
   by_cases h10 : q7 = 10
   ·
    subst h10
    exact absurd rfl he7.out.2.2
   ·
    have hq10 : ((q7 : Int) == 10) = false := by simp; omega
    clear h10
    go_wp2_with fail
    have TK := kind_any ab w.heap.size (w.heap.size + 1) M _ ka kc m _ HKS.out.kb (show m < ks.length by omega)
    rw [kk_at, HQ7.out] at TK
    refine TK.mono ?_
    rintro e w8 ⟨rfl, hbk⟩
    clear TK
    have HKS := Lib.hid (HKS.out.below hbk)
    have cf := HKS.out.cf
    replace cf : World.cell? _ ⟨w.heap.size + 1 + 1, 0, none⟩ = some (.func (.func 94) #[] #[.pointer (some ⟨w.heap.size, 0, none⟩), .pointer (some ⟨w.heap.size + 1, 0, none⟩)]) := cf
    clear hbk
    go_wp2_with fail
    refine (tstmt_any q7 _ he7.out).mono ?_
    rintro e w9 ⟨rfl, rfl⟩
    go_wp2
    go_ret
    exact ⟨rfl, HKS.out.be⟩
 ·
  skip
  have hp : ((ks.length : Int) == 3) = true := by simp [h3]
  have hl3 := Lib.hid h3
  have hlen : 3 ≤ ks.length := by omega
  clear h3
  go_enter Tryz.func57, Tryz.ntmps57
  go_wp2_with fail
  have hks := Lib.hid (KS.out)
  clear KS
  generalize hW0 : World.alloc (World.alloc (World.alloc w _) _) _ = W0
  have HKS := Lib.hid (show KStart w W0 ab M ⟨8, nm, nu, ty, rf, ks⟩ ka kc from hW0 ▸ hks.out)
  clear hks hW0
  have cf := HKS.out.cf
  replace cf : World.cell? _ ⟨w.heap.size + 1 + 1, 0, none⟩ = some (.func (.func 94) #[] #[.pointer (some ⟨w.heap.size, 0, none⟩), .pointer (some ⟨w.heap.size + 1, 0, none⟩)]) := cf
  obtain ⟨q7, hq7⟩ : ∃ q, kk M ⟨8, nm, nu, ty, rf, ks⟩ 0 = q := ⟨_, rfl⟩
  rw [hq7] at e0
  have he7 := Lib.hid e0
  have hqq := hq7
  clear hq7
  have TK := kind_any ab w.heap.size (w.heap.size + 1) M _ ka kc 0 _ HKS.out.kb (show 0 < ks.length by omega)
  rw [kk_at, hqq] at TK
  refine TK.mono ?_
  rintro e w7 ⟨rfl, hbk⟩
  clear TK
  have HKS := Lib.hid (HKS.out.below hbk)
  have cf := HKS.out.cf
  replace cf : World.cell? _ ⟨w.heap.size + 1 + 1, 0, none⟩ = some (.func (.func 94) #[] #[.pointer (some ⟨w.heap.size, 0, none⟩), .pointer (some ⟨w.heap.size + 1, 0, none⟩)]) := cf
  clear hbk
  clear hqq
  go_wp2_with fail
  refine (texpr_any q7 _ he7.out).mono ?_
  rintro e w9 ⟨rfl, rfl⟩
  go_wp2_with fail
  refine (mk_any 5 _).mono ?_
  rintro e w1 ⟨rfl, rfl⟩
  have HKQ := Lib.hid (HKS.out.below ((Below.refl _ _).alloc (Nat.le_refl _) (.cells #[.int .u8 ((5 : Nat) : Int)] 5)))
  have hcq := cell_of_row _ _ 0 _ _ (0, 0) (heap_alloc_new w7 (.cells #[.int .u8 ((5 : Nat) : Int)] 5))
  have hqz : (w7).heap.size < ((w7).alloc (.cells #[.int .u8 ((5 : Nat) : Int)] 5)).heap.size := by simp
  clear cf
  go_wp2_with fail
  refine (allO_any ab w.heap.size (w.heap.size + 1) (w.heap.size + 2) M _ ka kc 1 3 (w7).heap.size 5 _ HKQ.out.kb HKQ.out.cf HKQ.out.lf ⟨hcq, hqz⟩ (show 3 ≤ ks.length by omega) (fun i hi h1 h2 => by rw [kk_at]; exact (by rcases (show i = 1 ∨ i = 2 by omega) with rfl | rfl <;> assumption))).mono ?_
  rintro e w2 ⟨rfl, hb2⟩
  have HKS := Lib.hid (HKQ.out.below hb2)
  have cf := HKS.out.cf
  replace cf : World.cell? _ ⟨w.heap.size + 1 + 1, 0, none⟩ = some (.func (.func 94) #[] #[.pointer (some ⟨w.heap.size, 0, none⟩), .pointer (some ⟨w.heap.size + 1, 0, none⟩)]) := cf
  clear HKQ hcq hb2 hqz
  go_wp2
  go_ret
  exact ⟨rfl, HKS.out.be⟩
 ·
  skip
  have hp : ((ks.length : Int) == 2) = true := by simp [h2]
  have hlen : 2 ≤ ks.length := by omega
  clear h2
  go_enter Tryz.func57, Tryz.ntmps57
  go_wp2_with fail
  have hks := Lib.hid (KS.out)
  clear KS
  generalize hW0 : World.alloc (World.alloc (World.alloc w _) _) _ = W0
  have HKS := Lib.hid (show KStart w W0 ab M ⟨9, nm, nu, ty, rf, ks⟩ ka kc from hW0 ▸ hks.out)
  clear hks hW0
  have cf := HKS.out.cf
  replace cf : World.cell? _ ⟨w.heap.size + 1 + 1, 0, none⟩ = some (.func (.func 94) #[] #[.pointer (some ⟨w.heap.size, 0, none⟩), .pointer (some ⟨w.heap.size + 1, 0, none⟩)]) := cf
  obtain ⟨q7, hq7⟩ : ∃ q, kk M ⟨9, nm, nu, ty, rf, ks⟩ 0 = q := ⟨_, rfl⟩
  rw [hq7] at e0
  have he7 := Lib.hid e0
  have hqq := hq7
  clear hq7
  have TK := kind_any ab w.heap.size (w.heap.size + 1) M _ ka kc 0 _ HKS.out.kb (show 0 < ks.length by omega)
  rw [kk_at, hqq] at TK
  refine TK.mono ?_
  rintro e w7 ⟨rfl, hbk⟩
  clear TK
  have HKS := Lib.hid (HKS.out.below hbk)
  have cf := HKS.out.cf
  replace cf : World.cell? _ ⟨w.heap.size + 1 + 1, 0, none⟩ = some (.func (.func 94) #[] #[.pointer (some ⟨w.heap.size, 0, none⟩), .pointer (some ⟨w.heap.size + 1, 0, none⟩)]) := cf
  clear hbk
  clear hqq
  go_wp2_with fail
  refine (texpr_any q7 _ he7.out).mono ?_
  rintro e w9 ⟨rfl, rfl⟩
  go_wp2_with fail
  have TK := kind_any ab w.heap.size (w.heap.size + 1) M _ ka kc 1 _ HKS.out.kb (show 1 < ks.length by omega)
  rw [kk_at, k1] at TK
  refine TK.mono ?_
  rintro e w8 ⟨rfl, hbk⟩
  clear TK
  have HKS := Lib.hid (HKS.out.below hbk)
  have cf := HKS.out.cf
  replace cf : World.cell? _ ⟨w.heap.size + 1 + 1, 0, none⟩ = some (.func (.func 94) #[] #[.pointer (some ⟨w.heap.size, 0, none⟩), .pointer (some ⟨w.heap.size + 1, 0, none⟩)]) := cf
  clear hbk
  go_wp2
  go_ret
  exact ⟨rfl, HKS.out.be⟩
 ·
  skip
  have hp : ((ks.length : Int) == 1) = true := by simp [h1]
  have hlen : 1 ≤ ks.length := by omega
  clear h1
  go_enter Tryz.func57, Tryz.ntmps57
  go_wp2_with fail
  have hks := Lib.hid (KS.out)
  clear KS
  generalize hW0 : World.alloc (World.alloc (World.alloc w _) _) _ = W0
  have HKS := Lib.hid (show KStart w W0 ab M ⟨12, nm, nu, ty, rf, ks⟩ ka kc from hW0 ▸ hks.out)
  clear hks hW0
  have cf := HKS.out.cf
  replace cf : World.cell? _ ⟨w.heap.size + 1 + 1, 0, none⟩ = some (.func (.func 94) #[] #[.pointer (some ⟨w.heap.size, 0, none⟩), .pointer (some ⟨w.heap.size + 1, 0, none⟩)]) := cf
  have TK := kind_any ab w.heap.size (w.heap.size + 1) M _ ka kc 0 _ HKS.out.kb (show 0 < ks.length by omega)
  rw [kk_at, k0] at TK
  refine TK.mono ?_
  rintro e w8 ⟨rfl, hbk⟩
  clear TK
  have HKS := Lib.hid (HKS.out.below hbk)
  have cf := HKS.out.cf
  replace cf : World.cell? _ ⟨w.heap.size + 1 + 1, 0, none⟩ = some (.func (.func 94) #[] #[.pointer (some ⟨w.heap.size, 0, none⟩), .pointer (some ⟨w.heap.size + 1, 0, none⟩)]) := cf
  clear hbk
  go_wp2
  go_ret
  exact ⟨rfl, HKS.out.be⟩
 ·
  skip
  have hp : ((ks.length : Int) == 1) = true := by simp [h1]
  have hlen : 1 ≤ ks.length := by omega
  clear h1
  rcases hkd with rfl | rfl | rfl | rfl
  ·
   skip
   go_enter Tryz.func57, Tryz.ntmps57
   go_wp2_with fail
   have hks := Lib.hid (KS.out)
   clear KS
   generalize hW0 : World.alloc (World.alloc (World.alloc w _) _) _ = W0
   have HKS := Lib.hid (show KStart w W0 ab M ⟨6, nm, nu, ty, rf, ks⟩ ka kc from hW0 ▸ hks.out)
   clear hks hW0
   have cf := HKS.out.cf
   replace cf : World.cell? _ ⟨w.heap.size + 1 + 1, 0, none⟩ = some (.func (.func 94) #[] #[.pointer (some ⟨w.heap.size, 0, none⟩), .pointer (some ⟨w.heap.size + 1, 0, none⟩)]) := cf
   obtain ⟨q7, hq7⟩ : ∃ q, kk M ⟨6, nm, nu, ty, rf, ks⟩ 0 = q := ⟨_, rfl⟩
   rw [hq7] at e0
   have he7 := Lib.hid e0
   have hqq := hq7
   clear hq7
   have TK := kind_any ab w.heap.size (w.heap.size + 1) M _ ka kc 0 _ HKS.out.kb (show 0 < ks.length by omega)
   rw [kk_at, hqq] at TK
   refine TK.mono ?_
   rintro e w7 ⟨rfl, hbk⟩
   clear TK
   have HKS := Lib.hid (HKS.out.below hbk)
   have cf := HKS.out.cf
   replace cf : World.cell? _ ⟨w.heap.size + 1 + 1, 0, none⟩ = some (.func (.func 94) #[] #[.pointer (some ⟨w.heap.size, 0, none⟩), .pointer (some ⟨w.heap.size + 1, 0, none⟩)]) := cf
   clear hbk
   clear hqq
   go_wp2_with fail
   refine (texpr_any q7 _ he7.out).mono ?_
   rintro e w9 ⟨rfl, rfl⟩
   go_wp2
   go_ret
   exact ⟨rfl, HKS.out.be⟩
  ·
   skip
   go_enter Tryz.func57, Tryz.ntmps57
   go_wp2_with fail
   have hks := Lib.hid (KS.out)
   clear KS
   generalize hW0 : World.alloc (World.alloc (World.alloc w _) _) _ = W0
   have HKS := Lib.hid (show KStart w W0 ab M ⟨7, nm, nu, ty, rf, ks⟩ ka kc from hW0 ▸ hks.out)
   clear hks hW0
   have cf := HKS.out.cf
   replace cf : World.cell? _ ⟨w.heap.size + 1 + 1, 0, none⟩ = some (.func (.func 94) #[] #[.pointer (some ⟨w.heap.size, 0, none⟩), .pointer (some ⟨w.heap.size + 1, 0, none⟩)]) := cf
   obtain ⟨q7, hq7⟩ : ∃ q, kk M ⟨7, nm, nu, ty, rf, ks⟩ 0 = q := ⟨_, rfl⟩
   rw [hq7] at e0
   have he7 := Lib.hid e0
   have hqq := hq7
   clear hq7
   have TK := kind_any ab w.heap.size (w.heap.size + 1) M _ ka kc 0 _ HKS.out.kb (show 0 < ks.length by omega)
   rw [kk_at, hqq] at TK
   refine TK.mono ?_
   rintro e w7 ⟨rfl, hbk⟩
   clear TK
   have HKS := Lib.hid (HKS.out.below hbk)
   have cf := HKS.out.cf
   replace cf : World.cell? _ ⟨w.heap.size + 1 + 1, 0, none⟩ = some (.func (.func 94) #[] #[.pointer (some ⟨w.heap.size, 0, none⟩), .pointer (some ⟨w.heap.size + 1, 0, none⟩)]) := cf
   clear hbk
   clear hqq
   go_wp2_with fail
   refine (texpr_any q7 _ he7.out).mono ?_
   rintro e w9 ⟨rfl, rfl⟩
   go_wp2
   go_ret
   exact ⟨rfl, HKS.out.be⟩
  ·
   skip
   go_enter Tryz.func57, Tryz.ntmps57
   go_wp2_with fail
   have hks := Lib.hid (KS.out)
   clear KS
   generalize hW0 : World.alloc (World.alloc (World.alloc w _) _) _ = W0
   have HKS := Lib.hid (show KStart w W0 ab M ⟨10, nm, nu, ty, rf, ks⟩ ka kc from hW0 ▸ hks.out)
   clear hks hW0
   have cf := HKS.out.cf
   replace cf : World.cell? _ ⟨w.heap.size + 1 + 1, 0, none⟩ = some (.func (.func 94) #[] #[.pointer (some ⟨w.heap.size, 0, none⟩), .pointer (some ⟨w.heap.size + 1, 0, none⟩)]) := cf
   obtain ⟨q7, hq7⟩ : ∃ q, kk M ⟨10, nm, nu, ty, rf, ks⟩ 0 = q := ⟨_, rfl⟩
   rw [hq7] at e0
   have he7 := Lib.hid e0
   have hqq := hq7
   clear hq7
   have TK := kind_any ab w.heap.size (w.heap.size + 1) M _ ka kc 0 _ HKS.out.kb (show 0 < ks.length by omega)
   rw [kk_at, hqq] at TK
   refine TK.mono ?_
   rintro e w7 ⟨rfl, hbk⟩
   clear TK
   have HKS := Lib.hid (HKS.out.below hbk)
   have cf := HKS.out.cf
   replace cf : World.cell? _ ⟨w.heap.size + 1 + 1, 0, none⟩ = some (.func (.func 94) #[] #[.pointer (some ⟨w.heap.size, 0, none⟩), .pointer (some ⟨w.heap.size + 1, 0, none⟩)]) := cf
   clear hbk
   clear hqq
   go_wp2_with fail
   refine (texpr_any q7 _ he7.out).mono ?_
   rintro e w9 ⟨rfl, rfl⟩
   go_wp2
   go_ret
   exact ⟨rfl, HKS.out.be⟩
  ·
   skip
   go_enter Tryz.func57, Tryz.ntmps57
   go_wp2_with fail
   have hks := Lib.hid (KS.out)
   clear KS
   generalize hW0 : World.alloc (World.alloc (World.alloc w _) _) _ = W0
   have HKS := Lib.hid (show KStart w W0 ab M ⟨11, nm, nu, ty, rf, ks⟩ ka kc from hW0 ▸ hks.out)
   clear hks hW0
   have cf := HKS.out.cf
   replace cf : World.cell? _ ⟨w.heap.size + 1 + 1, 0, none⟩ = some (.func (.func 94) #[] #[.pointer (some ⟨w.heap.size, 0, none⟩), .pointer (some ⟨w.heap.size + 1, 0, none⟩)]) := cf
   obtain ⟨q7, hq7⟩ : ∃ q, kk M ⟨11, nm, nu, ty, rf, ks⟩ 0 = q := ⟨_, rfl⟩
   rw [hq7] at e0
   have he7 := Lib.hid e0
   have hqq := hq7
   clear hq7
   have TK := kind_any ab w.heap.size (w.heap.size + 1) M _ ka kc 0 _ HKS.out.kb (show 0 < ks.length by omega)
   rw [kk_at, hqq] at TK
   refine TK.mono ?_
   rintro e w7 ⟨rfl, hbk⟩
   clear TK
   have HKS := Lib.hid (HKS.out.below hbk)
   have cf := HKS.out.cf
   replace cf : World.cell? _ ⟨w.heap.size + 1 + 1, 0, none⟩ = some (.func (.func 94) #[] #[.pointer (some ⟨w.heap.size, 0, none⟩), .pointer (some ⟨w.heap.size + 1, 0, none⟩)]) := cf
   clear hbk
   clear hqq
   go_wp2_with fail
   refine (texpr_any q7 _ he7.out).mono ?_
   rintro e w9 ⟨rfl, rfl⟩
   go_wp2
   go_ret
   exact ⟨rfl, HKS.out.be⟩
 ·
  skip
  have hp : ((ks.length : Int) == 2) = true := by simp [h2]
  have hlen : 2 ≤ ks.length := by omega
  clear h2
  go_enter Tryz.func57, Tryz.ntmps57
  go_wp2_with fail
  have hks := Lib.hid (KS.out)
  clear KS
  generalize hW0 : World.alloc (World.alloc (World.alloc w _) _) _ = W0
  have HKS := Lib.hid (show KStart w W0 ab M ⟨18, nm, nu, ty, rf, ks⟩ ka kc from hW0 ▸ hks.out)
  clear hks hW0
  have cf := HKS.out.cf
  replace cf : World.cell? _ ⟨w.heap.size + 1 + 1, 0, none⟩ = some (.func (.func 94) #[] #[.pointer (some ⟨w.heap.size, 0, none⟩), .pointer (some ⟨w.heap.size + 1, 0, none⟩)]) := cf
  refine (allE_any ab w.heap.size (w.heap.size + 1) (w.heap.size + 2) M _ ka kc 0 2 _ HKS.out.kb HKS.out.cf HKS.out.lf (show 2 ≤ ks.length by omega) (fun i hi h1 h2 => by rw [kk_at]; exact (by rcases (show i = 0 ∨ i = 1 by omega) with rfl | rfl <;> assumption))).mono ?_
  rintro e w2 ⟨rfl, hb2⟩
  have HKS := Lib.hid (HKS.out.below hb2)
  have cf := HKS.out.cf
  replace cf : World.cell? _ ⟨w.heap.size + 1 + 1, 0, none⟩ = some (.func (.func 94) #[] #[.pointer (some ⟨w.heap.size, 0, none⟩), .pointer (some ⟨w.heap.size + 1, 0, none⟩)]) := cf
  clear hb2
  go_wp2
  go_ret
  exact ⟨rfl, HKS.out.be⟩
 ·
  skip
  go_enter Tryz.func57, Tryz.ntmps57
  go_wp2_with fail
  have hks := Lib.hid (KS.out)
  clear KS
  generalize hW0 : World.alloc (World.alloc (World.alloc w _) _) _ = W0
  have HKS := Lib.hid (show KStart w W0 ab M ⟨19, nm, nu, ty, rf, ks⟩ ka kc from hW0 ▸ hks.out)
  clear hks hW0
  have cf := HKS.out.cf
  replace cf : World.cell? _ ⟨w.heap.size + 1 + 1, 0, none⟩ = some (.func (.func 94) #[] #[.pointer (some ⟨w.heap.size, 0, none⟩), .pointer (some ⟨w.heap.size + 1, 0, none⟩)]) := cf
  refine (allE_any ab w.heap.size (w.heap.size + 1) (w.heap.size + 2) M _ ka kc 0 ks.length _ HKS.out.kb HKS.out.cf HKS.out.lf (show ks.length ≤ ks.length by omega) (fun i hi h1 h2 => by rw [kk_at]; exact hall i (by simpa using hi))).mono ?_
  rintro e w2 ⟨rfl, hb2⟩
  have HKS := Lib.hid (HKS.out.below hb2)
  have cf := HKS.out.cf
  replace cf : World.cell? _ ⟨w.heap.size + 1 + 1, 0, none⟩ = some (.func (.func 94) #[] #[.pointer (some ⟨w.heap.size, 0, none⟩), .pointer (some ⟨w.heap.size + 1, 0, none⟩)]) := cf
  clear hb2
  go_wp2
  go_ret
  exact ⟨rfl, HKS.out.be⟩
 ·
  skip
  have hp : ((ks.length : Int) == 0) = true := by simp [h0]
  clear h0
  rcases hkd with rfl | rfl | rfl | rfl
  ·
   have hks := Lib.hid KS.out.be
   clear KS
   go_enter Tryz.func57, Tryz.ntmps57
   go_wp2
   go_ret
   exact ⟨rfl, hks.out⟩
  ·
   have hks := Lib.hid KS.out.be
   clear KS
   go_enter Tryz.func57, Tryz.ntmps57
   go_wp2
   go_ret
   exact ⟨rfl, hks.out⟩
  ·
   have hks := Lib.hid KS.out.be
   clear KS
   go_enter Tryz.func57, Tryz.ntmps57
   go_wp2
   go_ret
   exact ⟨rfl, hks.out⟩
  ·
   have hks := Lib.hid KS.out.be
   clear KS
   go_enter Tryz.func57, Tryz.ntmps57
   go_wp2
   go_ret
   exact ⟨rfl, hks.out⟩
end Go.Proofs.YtoelmnamlnbdhaaGreatDoor
