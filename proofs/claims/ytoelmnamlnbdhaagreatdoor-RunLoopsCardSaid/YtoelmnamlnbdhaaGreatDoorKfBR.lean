/-
  Part of a proof of RunLoops: contracts of functions that the claim reaches, and plain lemmas.
-/
import Derived.Test.YtoelmnamlnbdhaaGreatDoorKfBQ
set_option linter.all false
namespace Go.Proofs.YtoelmnamlnbdhaaGreatDoor
open Go.RowKit
open Hg (GT gl wk isK ndAt kidsK KB)
def PartsOk (M : Nat → Option Hg.Node) (n : Hg.Node) : Prop :=
 n.ref < 18446744073709551616 ∧ n.name.length ≤ 1000000 ∧
 ((n.kind = 2 ∧ n.name ≠ [] ∧ nameB n.name = true ∧ n.type = 0 ∧ n.num = 0 ∧ n.ref = 0) ∨
  ((n.kind = 3 ∨ n.kind = 4 ∨ n.kind = 6) ∧ n.name ≠ [] ∧ nameB n.name = true ∧ (n.type = 1 ∨ n.type = 2) ∧ n.num = 0 ∧ n.ref = 0) ∨
  ((n.kind = 7 ∨ n.kind = 15) ∧ n.name = [] ∧ n.type = 0 ∧ n.num = 0 ∧ n.ref ≠ 0 ∧ ((ndAt M n.ref).kind = 4 ∨ (ndAt M n.ref).kind = 6)) ∨
  (n.kind = 19 ∧ n.name = [] ∧ n.type = 0 ∧ n.num = 0 ∧ n.ref ≠ 0 ∧ (ndAt M n.ref).kind = 3) ∨
  (n.kind = 13 ∧ n.name = [] ∧ n.type = 0 ∧ (0 ≤ n.num ∧ n.num ≤ 9223372036854775807) ∧ n.ref = 0) ∨
  (n.kind = 14 ∧ n.name = [] ∧ n.type = 0 ∧ (0 ≤ n.num ∧ n.num ≤ 1) ∧ n.ref = 0) ∨
  (n.kind = 18 ∧ n.name = [] ∧ n.type = 0 ∧ (1 ≤ n.num ∧ n.num ≤ 13) ∧ n.ref = 0) ∨
  ((n.kind = 1 ∨ n.kind = 5 ∨ n.kind = 8 ∨ n.kind = 9 ∨ n.kind = 10 ∨ n.kind = 11 ∨ n.kind = 12) ∧ n.name = [] ∧ n.type = 0 ∧ n.num = 0 ∧ n.ref = 0))
set_option maxHeartbeats 16000000 in
set_option maxRecDepth 100000 in
theorem parts_any (ab : Nat) (M : Nat → Option Hg.Node) (hM0 : M 0 = none) (n : Hg.Node) (ka : Option Addr) (kc : Nat) (w : World) (hA : ArOk w ab M) (hT : TabOk w) (hP : PartsOk M n) :
 Calls Tryz.prog 58 #[.pointer (some ⟨ab, 0, none⟩), ndV n ka kc] w fun e w' => e = .returned (.bool true) ∧ Below w.heap.size w w' := by
 have hz0 : (ndAt M 0).kind = 0 := by unfold ndAt; rw [hM0]; rfl
 obtain ⟨kd, nm, nu, ty, rf, ks⟩ := n
 unfold PartsOk at hP
 dsimp only at hP
 obtain ⟨hrf, hnl, hP⟩ := hP
 have TG := Lib.hid (fun W (h : Below w.heap.size w W) => (hA.below h).getN hrf)
 have TN := Lib.hid (fun W (h : Below w.heap.size w W) => isName_any nm W (by omega) (hT.block (h.block _ hT.lt)))
 have hb0 : Below w.heap.size w (w.alloc (.cells (ndCells ⟨kd, nm, nu, ty, rf, ks⟩ ka kc) 70)) := (Below.refl _ _).alloc (Nat.le_refl _) _
 have hn0 := heap_alloc_new w (.cells (ndCells ⟨kd, nm, nu, ty, rf, ks⟩ ka kc) 70)
 simp only [ndCells] at hb0 hn0
 clear hA hT
 have hq : rf ≠ 0 → ((rf : Int) != 0) = true := fun h => by simp; omega
 rcases hP with ⟨rfl, h1, h2, rfl, rfl, rfl⟩ | ⟨hkd, h1, h2, hty, rfl, rfl⟩ | ⟨hkd, rfl, rfl, rfl, hrf0, hk2⟩ | ⟨rfl, rfl, rfl, rfl, hrf0, hk2⟩ | ⟨rfl, rfl, rfl, ⟨hn1, hn2⟩, rfl⟩ | ⟨rfl, rfl, rfl, ⟨hn1, hn2⟩, rfl⟩ | ⟨rfl, rfl, rfl, ⟨hn1, hn2⟩, rfl⟩ | ⟨hkd, rfl, rfl, rfl, rfl⟩
 ·
  have hk2 := hz0
  obtain ⟨c0, nm, rfl⟩ := List.exists_cons_of_ne_nil h1
  go_enter Tryz.func58, Tryz.ntmps58
  go_wp2_with fail
  refine (TG.out _ hb0).mono ?_
  rintro e w1 ⟨ka1, kc1, rfl, ho1, hb1⟩
  have hb2 := hb0.trans (hb1.mono hb0.size)
  have hb3 := hb2.alloc hb2.size (.cells (ndCells (ndAt M 0) ka1 kc1) 70)
  have hn3 := (hb1.alloc hb1.size (.cells (ndCells (ndAt M 0) ka1 kc1) 70)).block w.heap.size (by simp) |>.trans hn0
  have y := fun i => cell_of_row (w1.alloc (.cells (ndCells (ndAt M 0) ka1 kc1) 70)) w.heap.size i _ _ (0, 0) hn3
  have y0 := y 0; have y1 := y 1; have y2 := y 2; have y3 := y 3; have y4 := y 4
  simp only [ndCells] at hb3 hn3 y0 y1 y2 y3 y4
  have HB3 := Lib.hid hb3
  have HN3 := Lib.hid hn3
  clear ho1 y TG hb0 hn0 hb1 hb2 hb3 hn3
  generalize hto : ndAt M 0 = tn at hk2 HB3 HN3 y0 y1 y2 y3 y4 ⊢
  clear hto
  obtain ⟨kd2, nm2, nu2, ty2, rf2, ks2⟩ := tn
  dsimp only at hk2 HB3 HN3 y0 y1 y2 y3 y4 ⊢
  subst hk2
  simp at y0 y1 y2 y3 y4
  go_wp2_with fail
  refine (TN.out _ HB3.out).mono ?_
  rintro e w5 ⟨rfl, hb5⟩
  have z := fun i => cell_of_row w5 w.heap.size i _ _ (0, 0) ((hb5.block w.heap.size (Array.getElem?_eq_some_iff.1 HN3.out).1).trans HN3.out)
  have z0 := z 0; have z1 := z 1; have z2 := z 2; have z3 := z 3; have z4 := z 4
  simp at z0 z1 z2 z3 z4
  have HB5 := Lib.hid (HB3.out.trans (hb5.mono HB3.out.size))
  rw [h2]
  clear z hb5 TN y0 y1 y2 y3 y4
  go_wp2
  go_ret
  exact ⟨rfl, HB5.out⟩
 ·
  have hk2 := hz0
  obtain ⟨c0, nm, rfl⟩ := List.exists_cons_of_ne_nil h1
  rcases hkd with rfl | rfl | rfl <;> rcases hty with rfl | rfl
  ·
   skip
   go_enter Tryz.func58, Tryz.ntmps58
   go_wp2_with fail
   refine (TG.out _ hb0).mono ?_
   rintro e w1 ⟨ka1, kc1, rfl, ho1, hb1⟩
   have hb2 := hb0.trans (hb1.mono hb0.size)
   have hb3 := hb2.alloc hb2.size (.cells (ndCells (ndAt M 0) ka1 kc1) 70)
   have hn3 := (hb1.alloc hb1.size (.cells (ndCells (ndAt M 0) ka1 kc1) 70)).block w.heap.size (by simp) |>.trans hn0
   have y := fun i => cell_of_row (w1.alloc (.cells (ndCells (ndAt M 0) ka1 kc1) 70)) w.heap.size i _ _ (0, 0) hn3
   have y0 := y 0; have y1 := y 1; have y2 := y 2; have y3 := y 3; have y4 := y 4
   simp only [ndCells] at hb3 hn3 y0 y1 y2 y3 y4
   have HB3 := Lib.hid hb3
   have HN3 := Lib.hid hn3
   clear ho1 y TG hb0 hn0 hb1 hb2 hb3 hn3
   generalize hto : ndAt M 0 = tn at hk2 HB3 HN3 y0 y1 y2 y3 y4 ⊢
   clear hto
   obtain ⟨kd2, nm2, nu2, ty2, rf2, ks2⟩ := tn
   dsimp only at hk2 HB3 HN3 y0 y1 y2 y3 y4 ⊢
   subst hk2
   simp at y0 y1 y2 y3 y4
   go_wp2_with fail
   refine (TN.out _ HB3.out).mono ?_
   rintro e w5 ⟨rfl, hb5⟩
   have z := fun i => cell_of_row w5 w.heap.size i _ _ (0, 0) ((hb5.block w.heap.size (Array.getElem?_eq_some_iff.1 HN3.out).1).trans HN3.out)
   have z0 := z 0; have z1 := z 1; have z2 := z 2; have z3 := z 3; have z4 := z 4
   simp at z0 z1 z2 z3 z4
   have HB5 := Lib.hid (HB3.out.trans (hb5.mono HB3.out.size))
   rw [h2]
   clear z hb5 TN y0 y1 y2 y3 y4
   go_wp2
   go_ret
   exact ⟨rfl, HB5.out⟩
  ·
   skip
   go_enter Tryz.func58, Tryz.ntmps58
   go_wp2_with fail
   refine (TG.out _ hb0).mono ?_
   rintro e w1 ⟨ka1, kc1, rfl, ho1, hb1⟩
   have hb2 := hb0.trans (hb1.mono hb0.size)
   have hb3 := hb2.alloc hb2.size (.cells (ndCells (ndAt M 0) ka1 kc1) 70)
   have hn3 := (hb1.alloc hb1.size (.cells (ndCells (ndAt M 0) ka1 kc1) 70)).block w.heap.size (by simp) |>.trans hn0
   have y := fun i => cell_of_row (w1.alloc (.cells (ndCells (ndAt M 0) ka1 kc1) 70)) w.heap.size i _ _ (0, 0) hn3
   have y0 := y 0; have y1 := y 1; have y2 := y 2; have y3 := y 3; have y4 := y 4
   simp only [ndCells] at hb3 hn3 y0 y1 y2 y3 y4
   have HB3 := Lib.hid hb3
   have HN3 := Lib.hid hn3
   clear ho1 y TG hb0 hn0 hb1 hb2 hb3 hn3
   generalize hto : ndAt M 0 = tn at hk2 HB3 HN3 y0 y1 y2 y3 y4 ⊢
   clear hto
   obtain ⟨kd2, nm2, nu2, ty2, rf2, ks2⟩ := tn
   dsimp only at hk2 HB3 HN3 y0 y1 y2 y3 y4 ⊢
   subst hk2
   simp at y0 y1 y2 y3 y4
   go_wp2_with fail
   refine (TN.out _ HB3.out).mono ?_
   rintro e w5 ⟨rfl, hb5⟩
   have z := fun i => cell_of_row w5 w.heap.size i _ _ (0, 0) ((hb5.block w.heap.size (Array.getElem?_eq_some_iff.1 HN3.out).1).trans HN3.out)
   have z0 := z 0; have z1 := z 1; have z2 := z 2; have z3 := z 3; have z4 := z 4
   simp at z0 z1 z2 z3 z4
   have HB5 := Lib.hid (HB3.out.trans (hb5.mono HB3.out.size))
   rw [h2]
   clear z hb5 TN y0 y1 y2 y3 y4
   go_wp2
   go_ret
   exact ⟨rfl, HB5.out⟩
  ·
   skip
   go_enter Tryz.func58, Tryz.ntmps58
   go_wp2_with fail
   refine (TG.out _ hb0).mono ?_
   rintro e w1 ⟨ka1, kc1, rfl, ho1, hb1⟩
   have hb2 := hb0.trans (hb1.mono hb0.size)
   have hb3 := hb2.alloc hb2.size (.cells (ndCells (ndAt M 0) ka1 kc1) 70)
   have hn3 := (hb1.alloc hb1.size (.cells (ndCells (ndAt M 0) ka1 kc1) 70)).block w.heap.size (by simp) |>.trans hn0
   have y := fun i => cell_of_row (w1.alloc (.cells (ndCells (ndAt M 0) ka1 kc1) 70)) w.heap.size i _ _ (0, 0) hn3
   have y0 := y 0; have y1 := y 1; have y2 := y 2; have y3 := y 3; have y4 := y 4
   simp only [ndCells] at hb3 hn3 y0 y1 y2 y3 y4
   have HB3 := Lib.hid hb3
   have HN3 := Lib.hid hn3
   clear ho1 y TG hb0 hn0 hb1 hb2 hb3 hn3
   generalize hto : ndAt M 0 = tn at hk2 HB3 HN3 y0 y1 y2 y3 y4 ⊢
   clear hto
   obtain ⟨kd2, nm2, nu2, ty2, rf2, ks2⟩ := tn
   dsimp only at hk2 HB3 HN3 y0 y1 y2 y3 y4 ⊢
   subst hk2
   simp at y0 y1 y2 y3 y4
   go_wp2_with fail
   refine (TN.out _ HB3.out).mono ?_
   rintro e w5 ⟨rfl, hb5⟩
   have z := fun i => cell_of_row w5 w.heap.size i _ _ (0, 0) ((hb5.block w.heap.size (Array.getElem?_eq_some_iff.1 HN3.out).1).trans HN3.out)
   have z0 := z 0; have z1 := z 1; have z2 := z 2; have z3 := z 3; have z4 := z 4
   simp at z0 z1 z2 z3 z4
   have HB5 := Lib.hid (HB3.out.trans (hb5.mono HB3.out.size))
   rw [h2]
   clear z hb5 TN y0 y1 y2 y3 y4
   go_wp2
   go_ret
   exact ⟨rfl, HB5.out⟩
  ·
   skip
   go_enter Tryz.func58, Tryz.ntmps58
   go_wp2_with fail
   refine (TG.out _ hb0).mono ?_
   rintro e w1 ⟨ka1, kc1, rfl, ho1, hb1⟩
   have hb2 := hb0.trans (hb1.mono hb0.size)
   have hb3 := hb2.alloc hb2.size (.cells (ndCells (ndAt M 0) ka1 kc1) 70)
   have hn3 := (hb1.alloc hb1.size (.cells (ndCells (ndAt M 0) ka1 kc1) 70)).block w.heap.size (by simp) |>.trans hn0
   have y := fun i => cell_of_row (w1.alloc (.cells (ndCells (ndAt M 0) ka1 kc1) 70)) w.heap.size i _ _ (0, 0) hn3
   have y0 := y 0; have y1 := y 1; have y2 := y 2; have y3 := y 3; have y4 := y 4
   simp only [ndCells] at hb3 hn3 y0 y1 y2 y3 y4
   have HB3 := Lib.hid hb3
   have HN3 := Lib.hid hn3
   clear ho1 y TG hb0 hn0 hb1 hb2 hb3 hn3
   generalize hto : ndAt M 0 = tn at hk2 HB3 HN3 y0 y1 y2 y3 y4 ⊢
   clear hto
   obtain ⟨kd2, nm2, nu2, ty2, rf2, ks2⟩ := tn
   dsimp only at hk2 HB3 HN3 y0 y1 y2 y3 y4 ⊢
   subst hk2
   simp at y0 y1 y2 y3 y4
   go_wp2_with fail
   refine (TN.out _ HB3.out).mono ?_
   rintro e w5 ⟨rfl, hb5⟩
   have z := fun i => cell_of_row w5 w.heap.size i _ _ (0, 0) ((hb5.block w.heap.size (Array.getElem?_eq_some_iff.1 HN3.out).1).trans HN3.out)
   have z0 := z 0; have z1 := z 1; have z2 := z 2; have z3 := z 3; have z4 := z 4
   simp at z0 z1 z2 z3 z4
   have HB5 := Lib.hid (HB3.out.trans (hb5.mono HB3.out.size))
   rw [h2]
   clear z hb5 TN y0 y1 y2 y3 y4
   go_wp2
   go_ret
   exact ⟨rfl, HB5.out⟩
  ·
   skip
   go_enter Tryz.func58, Tryz.ntmps58
   go_wp2_with fail
   refine (TG.out _ hb0).mono ?_
   rintro e w1 ⟨ka1, kc1, rfl, ho1, hb1⟩
   have hb2 := hb0.trans (hb1.mono hb0.size)
   have hb3 := hb2.alloc hb2.size (.cells (ndCells (ndAt M 0) ka1 kc1) 70)
   have hn3 := (hb1.alloc hb1.size (.cells (ndCells (ndAt M 0) ka1 kc1) 70)).block w.heap.size (by simp) |>.trans hn0
   have y := fun i => cell_of_row (w1.alloc (.cells (ndCells (ndAt M 0) ka1 kc1) 70)) w.heap.size i _ _ (0, 0) hn3
   have y0 := y 0; have y1 := y 1; have y2 := y 2; have y3 := y 3; have y4 := y 4
   simp only [ndCells] at hb3 hn3 y0 y1 y2 y3 y4
   have HB3 := Lib.hid hb3
   have HN3 := Lib.hid hn3
   clear ho1 y TG hb0 hn0 hb1 hb2 hb3 hn3
   generalize hto : ndAt M 0 = tn at hk2 HB3 HN3 y0 y1 y2 y3 y4 ⊢
   clear hto
   obtain ⟨kd2, nm2, nu2, ty2, rf2, ks2⟩ := tn
   dsimp only at hk2 HB3 HN3 y0 y1 y2 y3 y4 ⊢
   subst hk2
   simp at y0 y1 y2 y3 y4
   go_wp2_with fail
   refine (TN.out _ HB3.out).mono ?_
   rintro e w5 ⟨rfl, hb5⟩
   have z := fun i => cell_of_row w5 w.heap.size i _ _ (0, 0) ((hb5.block w.heap.size (Array.getElem?_eq_some_iff.1 HN3.out).1).trans HN3.out)
   have z0 := z 0; have z1 := z 1; have z2 := z 2; have z3 := z 3; have z4 := z 4
   simp at z0 z1 z2 z3 z4
   have HB5 := Lib.hid (HB3.out.trans (hb5.mono HB3.out.size))
   rw [h2]
   clear z hb5 TN y0 y1 y2 y3 y4
   go_wp2
   go_ret
   exact ⟨rfl, HB5.out⟩
  ·
   skip
   go_enter Tryz.func58, Tryz.ntmps58
   go_wp2_with fail
   refine (TG.out _ hb0).mono ?_
   rintro e w1 ⟨ka1, kc1, rfl, ho1, hb1⟩
   have hb2 := hb0.trans (hb1.mono hb0.size)
   have hb3 := hb2.alloc hb2.size (.cells (ndCells (ndAt M 0) ka1 kc1) 70)
   have hn3 := (hb1.alloc hb1.size (.cells (ndCells (ndAt M 0) ka1 kc1) 70)).block w.heap.size (by simp) |>.trans hn0
   have y := fun i => cell_of_row (w1.alloc (.cells (ndCells (ndAt M 0) ka1 kc1) 70)) w.heap.size i _ _ (0, 0) hn3
   have y0 := y 0; have y1 := y 1; have y2 := y 2; have y3 := y 3; have y4 := y 4
   simp only [ndCells] at hb3 hn3 y0 y1 y2 y3 y4
   have HB3 := Lib.hid hb3
   have HN3 := Lib.hid hn3
   clear ho1 y TG hb0 hn0 hb1 hb2 hb3 hn3
   generalize hto : ndAt M 0 = tn at hk2 HB3 HN3 y0 y1 y2 y3 y4 ⊢
   clear hto
   obtain ⟨kd2, nm2, nu2, ty2, rf2, ks2⟩ := tn
   dsimp only at hk2 HB3 HN3 y0 y1 y2 y3 y4 ⊢
   subst hk2
   simp at y0 y1 y2 y3 y4
   go_wp2_with fail
   refine (TN.out _ HB3.out).mono ?_
   rintro e w5 ⟨rfl, hb5⟩
   have z := fun i => cell_of_row w5 w.heap.size i _ _ (0, 0) ((hb5.block w.heap.size (Array.getElem?_eq_some_iff.1 HN3.out).1).trans HN3.out)
   have z0 := z 0; have z1 := z 1; have z2 := z 2; have z3 := z 3; have z4 := z 4
   simp at z0 z1 z2 z3 z4
   have HB5 := Lib.hid (HB3.out.trans (hb5.mono HB3.out.size))
   rw [h2]
   clear z hb5 TN y0 y1 y2 y3 y4
   go_wp2
   go_ret
   exact ⟨rfl, HB5.out⟩
 ·
  have hq1 := hq hrf0
  rcases hkd with rfl | rfl <;> rcases hk2 with hk2 | hk2
  ·
   skip
   go_enter Tryz.func58, Tryz.ntmps58
   go_wp2_with fail
   refine (TG.out _ hb0).mono ?_
   rintro e w1 ⟨ka1, kc1, rfl, ho1, hb1⟩
   have hb2 := hb0.trans (hb1.mono hb0.size)
   have hb3 := hb2.alloc hb2.size (.cells (ndCells (ndAt M rf) ka1 kc1) 70)
   have hn3 := (hb1.alloc hb1.size (.cells (ndCells (ndAt M rf) ka1 kc1) 70)).block w.heap.size (by simp) |>.trans hn0
   have y := fun i => cell_of_row (w1.alloc (.cells (ndCells (ndAt M rf) ka1 kc1) 70)) w.heap.size i _ _ (0, 0) hn3
   have y0 := y 0; have y1 := y 1; have y2 := y 2; have y3 := y 3; have y4 := y 4
   simp only [ndCells] at hb3 hn3 y0 y1 y2 y3 y4
   have HB3 := Lib.hid hb3
   have HN3 := Lib.hid hn3
   clear ho1 y TG hb0 hn0 hb1 hb2 hb3 hn3
   generalize hto : ndAt M rf = tn at hk2 HB3 HN3 y0 y1 y2 y3 y4 ⊢
   clear hto
   obtain ⟨kd2, nm2, nu2, ty2, rf2, ks2⟩ := tn
   dsimp only at hk2 HB3 HN3 y0 y1 y2 y3 y4 ⊢
   subst hk2
   simp at y0 y1 y2 y3 y4
   go_wp2
   go_ret
   exact ⟨rfl, HB3.out⟩
  ·
   skip
   go_enter Tryz.func58, Tryz.ntmps58
   go_wp2_with fail
   refine (TG.out _ hb0).mono ?_
   rintro e w1 ⟨ka1, kc1, rfl, ho1, hb1⟩
   have hb2 := hb0.trans (hb1.mono hb0.size)
   have hb3 := hb2.alloc hb2.size (.cells (ndCells (ndAt M rf) ka1 kc1) 70)
   have hn3 := (hb1.alloc hb1.size (.cells (ndCells (ndAt M rf) ka1 kc1) 70)).block w.heap.size (by simp) |>.trans hn0
   have y := fun i => cell_of_row (w1.alloc (.cells (ndCells (ndAt M rf) ka1 kc1) 70)) w.heap.size i _ _ (0, 0) hn3
   have y0 := y 0; have y1 := y 1; have y2 := y 2; have y3 := y 3; have y4 := y 4
   simp only [ndCells] at hb3 hn3 y0 y1 y2 y3 y4
   have HB3 := Lib.hid hb3
   have HN3 := Lib.hid hn3
   clear ho1 y TG hb0 hn0 hb1 hb2 hb3 hn3
   generalize hto : ndAt M rf = tn at hk2 HB3 HN3 y0 y1 y2 y3 y4 ⊢
   clear hto
   obtain ⟨kd2, nm2, nu2, ty2, rf2, ks2⟩ := tn
   dsimp only at hk2 HB3 HN3 y0 y1 y2 y3 y4 ⊢
   subst hk2
   simp at y0 y1 y2 y3 y4
   go_wp2
   go_ret
   exact ⟨rfl, HB3.out⟩
  ·
   skip
   go_enter Tryz.func58, Tryz.ntmps58
   go_wp2_with fail
   refine (TG.out _ hb0).mono ?_
   rintro e w1 ⟨ka1, kc1, rfl, ho1, hb1⟩
   have hb2 := hb0.trans (hb1.mono hb0.size)
   have hb3 := hb2.alloc hb2.size (.cells (ndCells (ndAt M rf) ka1 kc1) 70)
   have hn3 := (hb1.alloc hb1.size (.cells (ndCells (ndAt M rf) ka1 kc1) 70)).block w.heap.size (by simp) |>.trans hn0
   have y := fun i => cell_of_row (w1.alloc (.cells (ndCells (ndAt M rf) ka1 kc1) 70)) w.heap.size i _ _ (0, 0) hn3
   have y0 := y 0; have y1 := y 1; have y2 := y 2; have y3 := y 3; have y4 := y 4
   simp only [ndCells] at hb3 hn3 y0 y1 y2 y3 y4
   have HB3 := Lib.hid hb3
   have HN3 := Lib.hid hn3
   clear ho1 y TG hb0 hn0 hb1 hb2 hb3 hn3
   generalize hto : ndAt M rf = tn at hk2 HB3 HN3 y0 y1 y2 y3 y4 ⊢
   clear hto
   obtain ⟨kd2, nm2, nu2, ty2, rf2, ks2⟩ := tn
   dsimp only at hk2 HB3 HN3 y0 y1 y2 y3 y4 ⊢
   subst hk2
   simp at y0 y1 y2 y3 y4
   go_wp2
   go_ret
   exact ⟨rfl, HB3.out⟩
  ·
   skip
   go_enter Tryz.func58, Tryz.ntmps58
   go_wp2_with fail
   refine (TG.out _ hb0).mono ?_
   rintro e w1 ⟨ka1, kc1, rfl, ho1, hb1⟩
   have hb2 := hb0.trans (hb1.mono hb0.size)
   have hb3 := hb2.alloc hb2.size (.cells (ndCells (ndAt M rf) ka1 kc1) 70)
   have hn3 := (hb1.alloc hb1.size (.cells (ndCells (ndAt M rf) ka1 kc1) 70)).block w.heap.size (by simp) |>.trans hn0
   have y := fun i => cell_of_row (w1.alloc (.cells (ndCells (ndAt M rf) ka1 kc1) 70)) w.heap.size i _ _ (0, 0) hn3
   have y0 := y 0; have y1 := y 1; have y2 := y 2; have y3 := y 3; have y4 := y 4
   simp only [ndCells] at hb3 hn3 y0 y1 y2 y3 y4
   have HB3 := Lib.hid hb3
   have HN3 := Lib.hid hn3
   clear ho1 y TG hb0 hn0 hb1 hb2 hb3 hn3
   generalize hto : ndAt M rf = tn at hk2 HB3 HN3 y0 y1 y2 y3 y4 ⊢
   clear hto
   obtain ⟨kd2, nm2, nu2, ty2, rf2, ks2⟩ := tn
   dsimp only at hk2 HB3 HN3 y0 y1 y2 y3 y4 ⊢
   subst hk2
   simp at y0 y1 y2 y3 y4
   go_wp2
   go_ret
   exact ⟨rfl, HB3.out⟩
 ·
  have hq1 := hq hrf0
  go_enter Tryz.func58, Tryz.ntmps58
  go_wp2_with fail
  refine (TG.out _ hb0).mono ?_
  rintro e w1 ⟨ka1, kc1, rfl, ho1, hb1⟩
  have hb2 := hb0.trans (hb1.mono hb0.size)
  have hb3 := hb2.alloc hb2.size (.cells (ndCells (ndAt M rf) ka1 kc1) 70)
  have hn3 := (hb1.alloc hb1.size (.cells (ndCells (ndAt M rf) ka1 kc1) 70)).block w.heap.size (by simp) |>.trans hn0
  have y := fun i => cell_of_row (w1.alloc (.cells (ndCells (ndAt M rf) ka1 kc1) 70)) w.heap.size i _ _ (0, 0) hn3
  have y0 := y 0; have y1 := y 1; have y2 := y 2; have y3 := y 3; have y4 := y 4
  simp only [ndCells] at hb3 hn3 y0 y1 y2 y3 y4
  have HB3 := Lib.hid hb3
  have HN3 := Lib.hid hn3
  clear ho1 y TG hb0 hn0 hb1 hb2 hb3 hn3
  generalize hto : ndAt M rf = tn at hk2 HB3 HN3 y0 y1 y2 y3 y4 ⊢
  clear hto
  obtain ⟨kd2, nm2, nu2, ty2, rf2, ks2⟩ := tn
  dsimp only at hk2 HB3 HN3 y0 y1 y2 y3 y4 ⊢
  subst hk2
  simp at y0 y1 y2 y3 y4
  go_wp2
  go_ret
  exact ⟨rfl, HB3.out⟩
 ·
  have hk2 := hz0
  go_enter Tryz.func58, Tryz.ntmps58
  go_wp2_with fail
  refine (TG.out _ hb0).mono ?_
  rintro e w1 ⟨ka1, kc1, rfl, ho1, hb1⟩
  have hb2 := hb0.trans (hb1.mono hb0.size)
  have hb3 := hb2.alloc hb2.size (.cells (ndCells (ndAt M 0) ka1 kc1) 70)
  have hn3 := (hb1.alloc hb1.size (.cells (ndCells (ndAt M 0) ka1 kc1) 70)).block w.heap.size (by simp) |>.trans hn0
  have y := fun i => cell_of_row (w1.alloc (.cells (ndCells (ndAt M 0) ka1 kc1) 70)) w.heap.size i _ _ (0, 0) hn3
  have y0 := y 0; have y1 := y 1; have y2 := y 2; have y3 := y 3; have y4 := y 4
  simp only [ndCells] at hb3 hn3 y0 y1 y2 y3 y4
  have HB3 := Lib.hid hb3
  have HN3 := Lib.hid hn3
  clear ho1 y TG hb0 hn0 hb1 hb2 hb3 hn3
  generalize hto : ndAt M 0 = tn at hk2 HB3 HN3 y0 y1 y2 y3 y4 ⊢
  clear hto
  obtain ⟨kd2, nm2, nu2, ty2, rf2, ks2⟩ := tn
  dsimp only at hk2 HB3 HN3 y0 y1 y2 y3 y4 ⊢
  subst hk2
  simp at y0 y1 y2 y3 y4
  go_wp2
  go_ret
  exact ⟨rfl, HB3.out⟩
 ·
  have hk2 := hz0
  go_enter Tryz.func58, Tryz.ntmps58
  go_wp2_with fail
  refine (TG.out _ hb0).mono ?_
  rintro e w1 ⟨ka1, kc1, rfl, ho1, hb1⟩
  have hb2 := hb0.trans (hb1.mono hb0.size)
  have hb3 := hb2.alloc hb2.size (.cells (ndCells (ndAt M 0) ka1 kc1) 70)
  have hn3 := (hb1.alloc hb1.size (.cells (ndCells (ndAt M 0) ka1 kc1) 70)).block w.heap.size (by simp) |>.trans hn0
  have y := fun i => cell_of_row (w1.alloc (.cells (ndCells (ndAt M 0) ka1 kc1) 70)) w.heap.size i _ _ (0, 0) hn3
  have y0 := y 0; have y1 := y 1; have y2 := y 2; have y3 := y 3; have y4 := y 4
  simp only [ndCells] at hb3 hn3 y0 y1 y2 y3 y4
  have HB3 := Lib.hid hb3
  have HN3 := Lib.hid hn3
  clear ho1 y TG hb0 hn0 hb1 hb2 hb3 hn3
  generalize hto : ndAt M 0 = tn at hk2 HB3 HN3 y0 y1 y2 y3 y4 ⊢
  clear hto
  obtain ⟨kd2, nm2, nu2, ty2, rf2, ks2⟩ := tn
  dsimp only at hk2 HB3 HN3 y0 y1 y2 y3 y4 ⊢
  subst hk2
  simp at y0 y1 y2 y3 y4
  go_wp2
  go_ret
  exact ⟨rfl, HB3.out⟩
 ·
  have hk2 := hz0
  go_enter Tryz.func58, Tryz.ntmps58
  go_wp2_with fail
  refine (TG.out _ hb0).mono ?_
  rintro e w1 ⟨ka1, kc1, rfl, ho1, hb1⟩
  have hb2 := hb0.trans (hb1.mono hb0.size)
  have hb3 := hb2.alloc hb2.size (.cells (ndCells (ndAt M 0) ka1 kc1) 70)
  have hn3 := (hb1.alloc hb1.size (.cells (ndCells (ndAt M 0) ka1 kc1) 70)).block w.heap.size (by simp) |>.trans hn0
  have y := fun i => cell_of_row (w1.alloc (.cells (ndCells (ndAt M 0) ka1 kc1) 70)) w.heap.size i _ _ (0, 0) hn3
  have y0 := y 0; have y1 := y 1; have y2 := y 2; have y3 := y 3; have y4 := y 4
  simp only [ndCells] at hb3 hn3 y0 y1 y2 y3 y4
  have HB3 := Lib.hid hb3
  have HN3 := Lib.hid hn3
  clear ho1 y TG hb0 hn0 hb1 hb2 hb3 hn3
  generalize hto : ndAt M 0 = tn at hk2 HB3 HN3 y0 y1 y2 y3 y4 ⊢
  clear hto
  obtain ⟨kd2, nm2, nu2, ty2, rf2, ks2⟩ := tn
  dsimp only at hk2 HB3 HN3 y0 y1 y2 y3 y4 ⊢
  subst hk2
  simp at y0 y1 y2 y3 y4
  go_wp2
  go_ret
  exact ⟨rfl, HB3.out⟩
 ·
  have hk2 := hz0
  rcases hkd with rfl | rfl | rfl | rfl | rfl | rfl | rfl
  ·
   skip
   go_enter Tryz.func58, Tryz.ntmps58
   go_wp2_with fail
   refine (TG.out _ hb0).mono ?_
   rintro e w1 ⟨ka1, kc1, rfl, ho1, hb1⟩
   have hb2 := hb0.trans (hb1.mono hb0.size)
   have hb3 := hb2.alloc hb2.size (.cells (ndCells (ndAt M 0) ka1 kc1) 70)
   have hn3 := (hb1.alloc hb1.size (.cells (ndCells (ndAt M 0) ka1 kc1) 70)).block w.heap.size (by simp) |>.trans hn0
   have y := fun i => cell_of_row (w1.alloc (.cells (ndCells (ndAt M 0) ka1 kc1) 70)) w.heap.size i _ _ (0, 0) hn3
   have y0 := y 0; have y1 := y 1; have y2 := y 2; have y3 := y 3; have y4 := y 4
   simp only [ndCells] at hb3 hn3 y0 y1 y2 y3 y4
   have HB3 := Lib.hid hb3
   have HN3 := Lib.hid hn3
   clear ho1 y TG hb0 hn0 hb1 hb2 hb3 hn3
   generalize hto : ndAt M 0 = tn at hk2 HB3 HN3 y0 y1 y2 y3 y4 ⊢
   clear hto
   obtain ⟨kd2, nm2, nu2, ty2, rf2, ks2⟩ := tn
   dsimp only at hk2 HB3 HN3 y0 y1 y2 y3 y4 ⊢
   subst hk2
   simp at y0 y1 y2 y3 y4
   go_wp2
   go_ret
   exact ⟨rfl, HB3.out⟩
  ·
   skip
   go_enter Tryz.func58, Tryz.ntmps58
   go_wp2_with fail
   refine (TG.out _ hb0).mono ?_
   rintro e w1 ⟨ka1, kc1, rfl, ho1, hb1⟩
   have hb2 := hb0.trans (hb1.mono hb0.size)
   have hb3 := hb2.alloc hb2.size (.cells (ndCells (ndAt M 0) ka1 kc1) 70)
   have hn3 := (hb1.alloc hb1.size (.cells (ndCells (ndAt M 0) ka1 kc1) 70)).block w.heap.size (by simp) |>.trans hn0
   have y := fun i => cell_of_row (w1.alloc (.cells (ndCells (ndAt M 0) ka1 kc1) 70)) w.heap.size i _ _ (0, 0) hn3
   have y0 := y 0; have y1 := y 1; have y2 := y 2; have y3 := y 3; have y4 := y 4
   simp only [ndCells] at hb3 hn3 y0 y1 y2 y3 y4
   have HB3 := Lib.hid hb3
   have HN3 := Lib.hid hn3
   clear ho1 y TG hb0 hn0 hb1 hb2 hb3 hn3
   generalize hto : ndAt M 0 = tn at hk2 HB3 HN3 y0 y1 y2 y3 y4 ⊢
   clear hto
   obtain ⟨kd2, nm2, nu2, ty2, rf2, ks2⟩ := tn
   dsimp only at hk2 HB3 HN3 y0 y1 y2 y3 y4 ⊢
   subst hk2
   simp at y0 y1 y2 y3 y4
   go_wp2
   go_ret
   exact ⟨rfl, HB3.out⟩
  ·
   skip
   go_enter Tryz.func58, Tryz.ntmps58
   go_wp2_with fail
   refine (TG.out _ hb0).mono ?_
   rintro e w1 ⟨ka1, kc1, rfl, ho1, hb1⟩
   have hb2 := hb0.trans (hb1.mono hb0.size)
   have hb3 := hb2.alloc hb2.size (.cells (ndCells (ndAt M 0) ka1 kc1) 70)
   have hn3 := (hb1.alloc hb1.size (.cells (ndCells (ndAt M 0) ka1 kc1) 70)).block w.heap.size (by simp) |>.trans hn0
   have y := fun i => cell_of_row (w1.alloc (.cells (ndCells (ndAt M 0) ka1 kc1) 70)) w.heap.size i _ _ (0, 0) hn3
   have y0 := y 0; have y1 := y 1; have y2 := y 2; have y3 := y 3; have y4 := y 4
   simp only [ndCells] at hb3 hn3 y0 y1 y2 y3 y4
   have HB3 := Lib.hid hb3
   have HN3 := Lib.hid hn3
   clear ho1 y TG hb0 hn0 hb1 hb2 hb3 hn3
   generalize hto : ndAt M 0 = tn at hk2 HB3 HN3 y0 y1 y2 y3 y4 ⊢
   clear hto
   obtain ⟨kd2, nm2, nu2, ty2, rf2, ks2⟩ := tn
   dsimp only at hk2 HB3 HN3 y0 y1 y2 y3 y4 ⊢
   subst hk2
   simp at y0 y1 y2 y3 y4
   go_wp2
   go_ret
   exact ⟨rfl, HB3.out⟩
  ·
   skip
   go_enter Tryz.func58, Tryz.ntmps58
   go_wp2_with fail
   refine (TG.out _ hb0).mono ?_
   rintro e w1 ⟨ka1, kc1, rfl, ho1, hb1⟩
   have hb2 := hb0.trans (hb1.mono hb0.size)
   have hb3 := hb2.alloc hb2.size (.cells (ndCells (ndAt M 0) ka1 kc1) 70)
   have hn3 := (hb1.alloc hb1.size (.cells (ndCells (ndAt M 0) ka1 kc1) 70)).block w.heap.size (by simp) |>.trans hn0
   have y := fun i => cell_of_row (w1.alloc (.cells (ndCells (ndAt M 0) ka1 kc1) 70)) w.heap.size i _ _ (0, 0) hn3
   have y0 := y 0; have y1 := y 1; have y2 := y 2; have y3 := y 3; have y4 := y 4
   simp only [ndCells] at hb3 hn3 y0 y1 y2 y3 y4
   have HB3 := Lib.hid hb3
   have HN3 := Lib.hid hn3
   clear ho1 y TG hb0 hn0 hb1 hb2 hb3 hn3
   generalize hto : ndAt M 0 = tn at hk2 HB3 HN3 y0 y1 y2 y3 y4 ⊢
   clear hto
   obtain ⟨kd2, nm2, nu2, ty2, rf2, ks2⟩ := tn
   dsimp only at hk2 HB3 HN3 y0 y1 y2 y3 y4 ⊢
   subst hk2
   simp at y0 y1 y2 y3 y4
   go_wp2
   go_ret
   exact ⟨rfl, HB3.out⟩
  ·
   skip
   go_enter Tryz.func58, Tryz.ntmps58
   go_wp2_with fail
   refine (TG.out _ hb0).mono ?_
   rintro e w1 ⟨ka1, kc1, rfl, ho1, hb1⟩
   have hb2 := hb0.trans (hb1.mono hb0.size)
   have hb3 := hb2.alloc hb2.size (.cells (ndCells (ndAt M 0) ka1 kc1) 70)
   have hn3 := (hb1.alloc hb1.size (.cells (ndCells (ndAt M 0) ka1 kc1) 70)).block w.heap.size (by simp) |>.trans hn0
   have y := fun i => cell_of_row (w1.alloc (.cells (ndCells (ndAt M 0) ka1 kc1) 70)) w.heap.size i _ _ (0, 0) hn3
   have y0 := y 0; have y1 := y 1; have y2 := y 2; have y3 := y 3; have y4 := y 4
   simp only [ndCells] at hb3 hn3 y0 y1 y2 y3 y4
   have HB3 := Lib.hid hb3
   have HN3 := Lib.hid hn3
   clear ho1 y TG hb0 hn0 hb1 hb2 hb3 hn3
   generalize hto : ndAt M 0 = tn at hk2 HB3 HN3 y0 y1 y2 y3 y4 ⊢
   clear hto
   obtain ⟨kd2, nm2, nu2, ty2, rf2, ks2⟩ := tn
   dsimp only at hk2 HB3 HN3 y0 y1 y2 y3 y4 ⊢
   subst hk2
   simp at y0 y1 y2 y3 y4
   go_wp2
   go_ret
   exact ⟨rfl, HB3.out⟩
  ·
   skip
   go_enter Tryz.func58, Tryz.ntmps58
   go_wp2_with fail
   refine (TG.out _ hb0).mono ?_
   rintro e w1 ⟨ka1, kc1, rfl, ho1, hb1⟩
   have hb2 := hb0.trans (hb1.mono hb0.size)
   have hb3 := hb2.alloc hb2.size (.cells (ndCells (ndAt M 0) ka1 kc1) 70)
   have hn3 := (hb1.alloc hb1.size (.cells (ndCells (ndAt M 0) ka1 kc1) 70)).block w.heap.size (by simp) |>.trans hn0
   have y := fun i => cell_of_row (w1.alloc (.cells (ndCells (ndAt M 0) ka1 kc1) 70)) w.heap.size i _ _ (0, 0) hn3
   have y0 := y 0; have y1 := y 1; have y2 := y 2; have y3 := y 3; have y4 := y 4
   simp only [ndCells] at hb3 hn3 y0 y1 y2 y3 y4
   have HB3 := Lib.hid hb3
   have HN3 := Lib.hid hn3
   clear ho1 y TG hb0 hn0 hb1 hb2 hb3 hn3
   generalize hto : ndAt M 0 = tn at hk2 HB3 HN3 y0 y1 y2 y3 y4 ⊢
   clear hto
   obtain ⟨kd2, nm2, nu2, ty2, rf2, ks2⟩ := tn
   dsimp only at hk2 HB3 HN3 y0 y1 y2 y3 y4 ⊢
   subst hk2
   simp at y0 y1 y2 y3 y4
   go_wp2
   go_ret
   exact ⟨rfl, HB3.out⟩
  ·
   skip
   go_enter Tryz.func58, Tryz.ntmps58
   go_wp2_with fail
   refine (TG.out _ hb0).mono ?_
   rintro e w1 ⟨ka1, kc1, rfl, ho1, hb1⟩
   have hb2 := hb0.trans (hb1.mono hb0.size)
   have hb3 := hb2.alloc hb2.size (.cells (ndCells (ndAt M 0) ka1 kc1) 70)
   have hn3 := (hb1.alloc hb1.size (.cells (ndCells (ndAt M 0) ka1 kc1) 70)).block w.heap.size (by simp) |>.trans hn0
   have y := fun i => cell_of_row (w1.alloc (.cells (ndCells (ndAt M 0) ka1 kc1) 70)) w.heap.size i _ _ (0, 0) hn3
   have y0 := y 0; have y1 := y 1; have y2 := y 2; have y3 := y 3; have y4 := y 4
   simp only [ndCells] at hb3 hn3 y0 y1 y2 y3 y4
   have HB3 := Lib.hid hb3
   have HN3 := Lib.hid hn3
   clear ho1 y TG hb0 hn0 hb1 hb2 hb3 hn3
   generalize hto : ndAt M 0 = tn at hk2 HB3 HN3 y0 y1 y2 y3 y4 ⊢
   clear hto
   obtain ⟨kd2, nm2, nu2, ty2, rf2, ks2⟩ := tn
   dsimp only at hk2 HB3 HN3 y0 y1 y2 y3 y4 ⊢
   subst hk2
   simp at y0 y1 y2 y3 y4
   go_wp2
   go_ret
   exact ⟨rfl, HB3.out⟩
end Go.Proofs.YtoelmnamlnbdhaaGreatDoor
namespace Hg
def ownD (k : Nat) : Nat := if k = 16 ∨ k = 17 ∨ k = 18 ∨ k = 19 then 1 else 0
def depthK (M : Nat → Option Node) : Nat → Nat → Nat
 | 0, _ => 0
 | l + 1, id => if (M id).isNone then 0 else ownD (ndAt M id).kind + (ndAt M id).kids.foldl (fun m k => max m (depthK M l k + (if (ndAt M k).kind = 5 ∧ (ndAt M id).kind ≠ 3 then 1 else 0))) 0
def dStep (M : Nat → Option Node) (l kd m k : Nat) : Nat := max m (depthK M l k + (if (ndAt M k).kind = 5 ∧ kd ≠ 3 then 1 else 0))
theorem depthK_succ (M : Nat → Option Node) (l id : Nat) : depthK M (l + 1) id = if (M id).isNone then 0 else ownD (ndAt M id).kind + (ndAt M id).kids.foldl (dStep M l (ndAt M id).kind) 0 := rfl
theorem ownD_le (k : Nat) : ownD k ≤ 1 := by unfold ownD; split <;> omega
theorem depthK_le (M : Nat → Option Node) : ∀ (l id : Nat), depthK M l id ≤ 2 * l
 | 0, _ => Nat.le_refl _
 | l + 1, id => by
   rw [depthK_succ]
   split
   ·
    omega
   ·
    have h : ∀ (ks : List Nat) (m : Nat), m ≤ 2 * l + 1 → ks.foldl (dStep M l (ndAt M id).kind) m ≤ 2 * l + 1 := by
     intro ks
     induction ks with
     | nil => intro m h; exact h
     | cons k ks ih =>
       intro m h
       refine ih _ ?_
       have := depthK_le M l k
       unfold dStep
       split <;> omega
    have h1 := h (ndAt M id).kids 0 (by omega)
    have h2 := ownD_le (ndAt M id).kind
    omega
theorem dFold_le (M : Nat → Option Node) (l kd : Nat) (ks : List Nat) : ks.foldl (dStep M l kd) 0 ≤ 2 * l + 1 := by
 have h : ∀ (ks : List Nat) (m : Nat), m ≤ 2 * l + 1 → ks.foldl (dStep M l kd) m ≤ 2 * l + 1 := by
  intro ks
  induction ks with
  | nil => intro m h; exact h
  | cons k ks ih =>
    intro m h
    refine ih _ ?_
    have := depthK_le M l k
    unfold dStep
    split <;> omega
 exact h ks 0 (by omega)
end Hg
namespace Go.Proofs.YtoelmnamlnbdhaaGreatDoor
open Go.RowKit
open Hg (GT gl wk isK ndAt kidsK KB depthK dStep ownD)
set_option maxHeartbeats 16000000 in
set_option maxRecDepth 100000 in
theorem depth_any (ab : Nat) (M : Nat → Option Hg.Node) : ∀ (l : Nat), l ≤ 1000 → ∀ (w : World) (id : Nat), ArOk w ab M → id < idTop →
 Calls Tryz.prog 60 #[.pointer (some ⟨ab, 0, none⟩), .int .u64 (id : Int), .int .i64 (l : Int)] w fun e w' => e = .returned (.int .i64 (depthK M l id : Int)) ∧ Below w.heap.size w w' := by
 intro l
 induction l with
 | zero =>
   intro hl w id hA hid
   have TG := Lib.hid (hA.getN hid)
   clear hA
   go_enter Tryz.func60, Tryz.ntmps60
   go_wp2_with fail
   refine TG.out.mono ?_
   rintro e w1 ⟨ka, kc, rfl, ho1, hb1⟩
   have HB := Lib.hid (hb1.alloc hb1.size (.cells (ndCells (ndAt M id) ka kc) 70))
   clear TG ho1 hb1
   generalize (M id).isSome = s
   cases s <;>
   ·
    go_wp2
    go_ret
    exact ⟨rfl, HB.out⟩
 | succ l ih =>
   intro hl w id hA hid
   have IH := Lib.hid (ih (by omega))
   have HA := Lib.hid hA
   have TG := Lib.hid (hA.getN hid)
   have HFI := Lib.hid (Hg.depthK_succ M l id)
   generalize depthK M (l + 1) id = r at HFI ⊢
   have hq0 : (((l + 1 : Nat) : Int) == 0) = false := by simp; omega
   have hsub : IntKind.i64.wrap (((l + 1 : Nat) : Int) - 1) = (l : Int) := by rw [show (((l + 1 : Nat) : Int) - 1) = (l : Int) from by omega]; exact IntWalk.i64_in _ (by omega)
   generalize hL : l + 1 = Lv at hq0 hsub ⊢
   have HLV := Lib.hid hL
   have hl : l < 1000 := by omega
   clear hL
   cases hM : (M id).isNone with
   | true =>
     have hs : (M id).isSome = false := by
      cases h : M id with
      | none => rfl
      | some _ => rw [h] at hM; cases hM
     rw [hM] at HFI
     have hr : r = 0 := HFI.out
     subst hr
     clear hA ih
     go_enter Tryz.func60, Tryz.ntmps60
     go_wp2_with fail
     refine TG.out.mono ?_
     rintro e w1 ⟨ka, kc, rfl, ho1, hb1⟩
     have HB := Lib.hid (hb1.alloc hb1.size (.cells (ndCells (ndAt M id) ka kc) 70))
     rw [hs]
     clear TG ho1 hb1 hs hM HFI
     go_wp2
     go_ret
     exact ⟨rfl, HB.out⟩
   | false =>
     have hs : (M id).isSome = true := by
      cases h : M id with
      | none => rw [h] at hM; cases hM
      | some _ => rfl
     rw [hM, if_neg (by simp)] at HFI
     have HK := Lib.hid (HA.out.2.at id)
     have hkl := HA.out.len id
     clear hA ih
     go_enter Tryz.func60, Tryz.ntmps60
     go_wp2_with fail
     refine TG.out.mono ?_
     rintro e w1 ⟨ka, kc, rfl, ho1, hb1⟩
     rw [hs]
     have hb3 := hb1.alloc hb1.size (.cells (ndCells (ndAt M id) ka kc) 70)
     have hs3 := Sl.of_own (ho1.alloc (.cells (ndCells (ndAt M id) ka kc) 70))
     have hn3 := heap_alloc_new w1 (.cells (ndCells (ndAt M id) ka kc) 70)
     simp only [ndCells] at hb3 hs3 hn3
     clear TG ho1 hb1 hs hM
     generalize ndAt M id = nd at HFI HK hkl hb3 hs3 hn3 ⊢
     obtain ⟨kd, nm, nu, ty, rf, kids⟩ := nd
     dsimp only at HFI HK hkl hb3 hs3 hn3 ⊢
     by_cases h16 : kd = 16
     ·
      subst h16
      have hfin : r = 1 + kids.foldl (dStep M l 16) 0 := HFI.out
      clear HFI
      have HFIN := Lib.hid hfin
      clear hfin
      go_wp2
      generalize World.alloc w1 _ = W3 at hb3 hs3 hn3 ⊢
      have HB3 := Lib.hid hb3
      have HS := Lib.hid hs3
      have HN3 := Lib.hid hn3
      have hnl := (Array.getElem?_eq_some_iff.1 hn3).1
      generalize w1.heap.size = nb at HN3 hnl ⊢
      clear hb3 hs3 hn3
      go_loopw [10, 38] (fun p q wr => ∃ i : Nat, p = .int .i64 ((kids.take i).foldl (dStep M l 16) 0 : Nat) ∧ q = .int .i64 (i : Int) ∧ i ≤ kids.length ∧ Below W3.heap.size W3 wr) (fun _ q wr => kids.length - (intOf q).toNat)
      case atStart => exact ⟨0, by simp, rfl, Nat.zero_le _, Below.refl _ _⟩
      case round =>
       obtain ⟨i, rfl, rfl, hi, hb⟩ := hrel
       have HB := Lib.hid hb
       have hzr := hb.size
       have hb4 := HB3.out.trans (hb.mono HB3.out.size)
       have HB4 := Lib.hid hb4
       by_cases hlt : i < kids.length
       ·
        obtain ⟨b, o, rfl, _, kck⟩ := (HS.out.below hb (Nat.le_refl _)).mapAt hlt
        have hkt := HK.out _ (List.getElem_mem hlt)
        have hstep : (kids.take (i + 1)).foldl (dStep M l 16) 0 = dStep M l 16 ((kids.take i).foldl (dStep M l 16) 0) kids[i] := by
         rw [List.take_succ_eq_append_getElem hlt, List.foldl_append]
         rfl
        have hml := Hg.dFold_le M l 16 (kids.take i)
        generalize kids[i] = k at kck hkt hstep
        generalize (kids.take i).foldl (dStep M l 16) 0 = mo at hstep hml ⊢
        have HST := Lib.hid (show (kids.take (i + 1)).foldl (dStep M l 16) 0 = max mo (depthK M l k + (if (ndAt M k).kind = 5 ∧ 16 ≠ 3 then 1 else 0)) from hstep)
        have TD := Lib.hid (IH.out wr k (HA.out.below hb4) hkt)
        have hdl := Hg.depthK_le M l k
        clear hb hb4 hstep
        go_wp2_with fail
        refine TD.out.mono ?_
        rintro e w5 ⟨rfl, hb5⟩
        have HB5 := Lib.hid (HB.out.trans (hb5.mono hzr))
        have TG := Lib.hid ((HA.out.below (HB3.out.trans (HB5.out.mono HB3.out.size))).getN hkt)
        have hs5 := HB5.out.size
        generalize depthK M l k = d at HST hdl ⊢
        clear hb5 TD
        go_wp2_with fail
        refine TG.out.mono ?_
        rintro e w6 ⟨ka6, kc6, rfl, ho6, hb6⟩
        have hb7 := (HB5.out.trans (hb6.mono hs5)).alloc (HB5.out.trans (hb6.mono hs5)).size (.cells (ndCells (ndAt M k) ka6 kc6) 70)
        have HB7 := Lib.hid hb7
        have y0 := cell_of_row (w6.alloc (.cells (ndCells (ndAt M k) ka6 kc6) 70)) nb 0 _ _ (0, 0) ((hb7.block nb hnl).trans HN3.out)
        simp only [ndCells] at y0 HB7
        have hk5 : (ndAt M k).kind = 5 ∨ (ndAt M k).kind ≠ 5 := by omega
        clear TG ho6 hb6 hb7 kck
        generalize ndAt M k = nk at HST HB7 y0 hk5 ⊢
        obtain ⟨kd2, nm2, nu2, ty2, rf2, ks2⟩ := nk
        dsimp only at HST HB7 y0 hk5 ⊢
        rcases hk5 with rfl | hk5
        ·
         simp at y0
         by_cases h3 : 16 = 3
         ·
          first
           | omega
           | skip
             have hst := HST.out
             rw [if_neg (fun h => h.2 h3)] at hst
             have q3 : (((16 : Nat) : Int) != 3) = false := by simp; omega
             have HS9 := Lib.hid hst
             clear hst HST
             go_wp2
             go_roundw
             case rel => exact ⟨i + 1, by rw [HS9.out]; exact congrArg (Value.int .i64) (by omega), by go_num, by omega, HB7.out⟩
             case measure => simp [intOf]; omega
         ·
          have hst := HST.out
          rw [if_pos ⟨rfl, h3⟩] at hst
          have q3 : (((16 : Nat) : Int) != 3) = true := by first | (simp; done) | (simp; omega)
          have HS9 := Lib.hid hst
          clear hst HST
          go_wp2
          go_roundw
          case rel => exact ⟨i + 1, by rw [HS9.out]; exact congrArg (Value.int .i64) (by omega), by go_num, by omega, HB7.out⟩
          case measure => simp [intOf]; omega
        ·
         simp at y0
         have hst := HST.out
         rw [if_neg (fun h => hk5 h.1)] at hst
         have q5 : ((kd2 : Int) == 5) = false := by simp; omega
         have HS9 := Lib.hid hst
         clear hst HST
         go_wp2
         go_roundw
         case rel => exact ⟨i + 1, by rw [HS9.out]; exact congrArg (Value.int .i64) (by omega), by go_num, by omega, HB7.out⟩
         case measure => simp [intOf]; omega
       ·
        obtain rfl : i = kids.length := by omega
        rw [List.take_length]
        have hml := Hg.dFold_le M l 16 kids
        have hfin := HFIN.out
        generalize kids.foldl (dStep M l 16) 0 = mo at hfin hml ⊢
        have HR9 := Lib.hid hfin
        clear hb hb4 hfin
        go_wp2
        go_ret
        have e9 : (r : Int) = 1 + (mo : Int) := by have := HR9.out; omega
        rw [e9]
        exact ⟨by first | rfl | (simp; done), HB4.out⟩
     by_cases h17 : kd = 17
     ·
      subst h17
      have hfin : r = 1 + kids.foldl (dStep M l 17) 0 := HFI.out
      clear HFI
      have HFIN := Lib.hid hfin
      clear hfin
      go_wp2
      generalize World.alloc w1 _ = W3 at hb3 hs3 hn3 ⊢
      have HB3 := Lib.hid hb3
      have HS := Lib.hid hs3
      have HN3 := Lib.hid hn3
      have hnl := (Array.getElem?_eq_some_iff.1 hn3).1
      generalize w1.heap.size = nb at HN3 hnl ⊢
      clear hb3 hs3 hn3
      go_loopw [10, 38] (fun p q wr => ∃ i : Nat, p = .int .i64 ((kids.take i).foldl (dStep M l 17) 0 : Nat) ∧ q = .int .i64 (i : Int) ∧ i ≤ kids.length ∧ Below W3.heap.size W3 wr) (fun _ q wr => kids.length - (intOf q).toNat)
      case atStart => exact ⟨0, by simp, rfl, Nat.zero_le _, Below.refl _ _⟩
      case round =>
       obtain ⟨i, rfl, rfl, hi, hb⟩ := hrel
       have HB := Lib.hid hb
       have hzr := hb.size
       have hb4 := HB3.out.trans (hb.mono HB3.out.size)
       have HB4 := Lib.hid hb4
       by_cases hlt : i < kids.length
       ·
        obtain ⟨b, o, rfl, _, kck⟩ := (HS.out.below hb (Nat.le_refl _)).mapAt hlt
        have hkt := HK.out _ (List.getElem_mem hlt)
        have hstep : (kids.take (i + 1)).foldl (dStep M l 17) 0 = dStep M l 17 ((kids.take i).foldl (dStep M l 17) 0) kids[i] := by
         rw [List.take_succ_eq_append_getElem hlt, List.foldl_append]
         rfl
        have hml := Hg.dFold_le M l 17 (kids.take i)
        generalize kids[i] = k at kck hkt hstep
        generalize (kids.take i).foldl (dStep M l 17) 0 = mo at hstep hml ⊢
        have HST := Lib.hid (show (kids.take (i + 1)).foldl (dStep M l 17) 0 = max mo (depthK M l k + (if (ndAt M k).kind = 5 ∧ 17 ≠ 3 then 1 else 0)) from hstep)
        have TD := Lib.hid (IH.out wr k (HA.out.below hb4) hkt)
        have hdl := Hg.depthK_le M l k
        clear hb hb4 hstep
        go_wp2_with fail
        refine TD.out.mono ?_
        rintro e w5 ⟨rfl, hb5⟩
        have HB5 := Lib.hid (HB.out.trans (hb5.mono hzr))
        have TG := Lib.hid ((HA.out.below (HB3.out.trans (HB5.out.mono HB3.out.size))).getN hkt)
        have hs5 := HB5.out.size
        generalize depthK M l k = d at HST hdl ⊢
        clear hb5 TD
        go_wp2_with fail
        refine TG.out.mono ?_
        rintro e w6 ⟨ka6, kc6, rfl, ho6, hb6⟩
        have hb7 := (HB5.out.trans (hb6.mono hs5)).alloc (HB5.out.trans (hb6.mono hs5)).size (.cells (ndCells (ndAt M k) ka6 kc6) 70)
        have HB7 := Lib.hid hb7
        have y0 := cell_of_row (w6.alloc (.cells (ndCells (ndAt M k) ka6 kc6) 70)) nb 0 _ _ (0, 0) ((hb7.block nb hnl).trans HN3.out)
        simp only [ndCells] at y0 HB7
        have hk5 : (ndAt M k).kind = 5 ∨ (ndAt M k).kind ≠ 5 := by omega
        clear TG ho6 hb6 hb7 kck
        generalize ndAt M k = nk at HST HB7 y0 hk5 ⊢
        obtain ⟨kd2, nm2, nu2, ty2, rf2, ks2⟩ := nk
        dsimp only at HST HB7 y0 hk5 ⊢
        rcases hk5 with rfl | hk5
        ·
         simp at y0
         by_cases h3 : 17 = 3
         ·
          first
           | omega
           | skip
             have hst := HST.out
             rw [if_neg (fun h => h.2 h3)] at hst
             have q3 : (((17 : Nat) : Int) != 3) = false := by simp; omega
             have HS9 := Lib.hid hst
             clear hst HST
             go_wp2
             go_roundw
             case rel => exact ⟨i + 1, by rw [HS9.out]; exact congrArg (Value.int .i64) (by omega), by go_num, by omega, HB7.out⟩
             case measure => simp [intOf]; omega
         ·
          have hst := HST.out
          rw [if_pos ⟨rfl, h3⟩] at hst
          have q3 : (((17 : Nat) : Int) != 3) = true := by first | (simp; done) | (simp; omega)
          have HS9 := Lib.hid hst
          clear hst HST
          go_wp2
          go_roundw
          case rel => exact ⟨i + 1, by rw [HS9.out]; exact congrArg (Value.int .i64) (by omega), by go_num, by omega, HB7.out⟩
          case measure => simp [intOf]; omega
        ·
         simp at y0
         have hst := HST.out
         rw [if_neg (fun h => hk5 h.1)] at hst
         have q5 : ((kd2 : Int) == 5) = false := by simp; omega
         have HS9 := Lib.hid hst
         clear hst HST
         go_wp2
         go_roundw
         case rel => exact ⟨i + 1, by rw [HS9.out]; exact congrArg (Value.int .i64) (by omega), by go_num, by omega, HB7.out⟩
         case measure => simp [intOf]; omega
       ·
        obtain rfl : i = kids.length := by omega
        rw [List.take_length]
        have hml := Hg.dFold_le M l 17 kids
        have hfin := HFIN.out
        generalize kids.foldl (dStep M l 17) 0 = mo at hfin hml ⊢
        have HR9 := Lib.hid hfin
        clear hb hb4 hfin
        go_wp2
        go_ret
        have e9 : (r : Int) = 1 + (mo : Int) := by have := HR9.out; omega
        rw [e9]
        exact ⟨by first | rfl | (simp; done), HB4.out⟩
     by_cases h18 : kd = 18
     ·
      subst h18
      have hfin : r = 1 + kids.foldl (dStep M l 18) 0 := HFI.out
      clear HFI
      have HFIN := Lib.hid hfin
      clear hfin
      go_wp2
      generalize World.alloc w1 _ = W3 at hb3 hs3 hn3 ⊢
      have HB3 := Lib.hid hb3
      have HS := Lib.hid hs3
      have HN3 := Lib.hid hn3
      have hnl := (Array.getElem?_eq_some_iff.1 hn3).1
      generalize w1.heap.size = nb at HN3 hnl ⊢
      clear hb3 hs3 hn3
      go_loopw [10, 38] (fun p q wr => ∃ i : Nat, p = .int .i64 ((kids.take i).foldl (dStep M l 18) 0 : Nat) ∧ q = .int .i64 (i : Int) ∧ i ≤ kids.length ∧ Below W3.heap.size W3 wr) (fun _ q wr => kids.length - (intOf q).toNat)
      case atStart => exact ⟨0, by simp, rfl, Nat.zero_le _, Below.refl _ _⟩
      case round =>
       obtain ⟨i, rfl, rfl, hi, hb⟩ := hrel
       have HB := Lib.hid hb
       have hzr := hb.size
       have hb4 := HB3.out.trans (hb.mono HB3.out.size)
       have HB4 := Lib.hid hb4
       by_cases hlt : i < kids.length
       ·
        obtain ⟨b, o, rfl, _, kck⟩ := (HS.out.below hb (Nat.le_refl _)).mapAt hlt
        have hkt := HK.out _ (List.getElem_mem hlt)
        have hstep : (kids.take (i + 1)).foldl (dStep M l 18) 0 = dStep M l 18 ((kids.take i).foldl (dStep M l 18) 0) kids[i] := by
         rw [List.take_succ_eq_append_getElem hlt, List.foldl_append]
         rfl
        have hml := Hg.dFold_le M l 18 (kids.take i)
        generalize kids[i] = k at kck hkt hstep
        generalize (kids.take i).foldl (dStep M l 18) 0 = mo at hstep hml ⊢
        have HST := Lib.hid (show (kids.take (i + 1)).foldl (dStep M l 18) 0 = max mo (depthK M l k + (if (ndAt M k).kind = 5 ∧ 18 ≠ 3 then 1 else 0)) from hstep)
        have TD := Lib.hid (IH.out wr k (HA.out.below hb4) hkt)
        have hdl := Hg.depthK_le M l k
        clear hb hb4 hstep
        go_wp2_with fail
        refine TD.out.mono ?_
        rintro e w5 ⟨rfl, hb5⟩
        have HB5 := Lib.hid (HB.out.trans (hb5.mono hzr))
        have TG := Lib.hid ((HA.out.below (HB3.out.trans (HB5.out.mono HB3.out.size))).getN hkt)
        have hs5 := HB5.out.size
        generalize depthK M l k = d at HST hdl ⊢
        clear hb5 TD
        go_wp2_with fail
        refine TG.out.mono ?_
        rintro e w6 ⟨ka6, kc6, rfl, ho6, hb6⟩
        have hb7 := (HB5.out.trans (hb6.mono hs5)).alloc (HB5.out.trans (hb6.mono hs5)).size (.cells (ndCells (ndAt M k) ka6 kc6) 70)
        have HB7 := Lib.hid hb7
        have y0 := cell_of_row (w6.alloc (.cells (ndCells (ndAt M k) ka6 kc6) 70)) nb 0 _ _ (0, 0) ((hb7.block nb hnl).trans HN3.out)
        simp only [ndCells] at y0 HB7
        have hk5 : (ndAt M k).kind = 5 ∨ (ndAt M k).kind ≠ 5 := by omega
        clear TG ho6 hb6 hb7 kck
        generalize ndAt M k = nk at HST HB7 y0 hk5 ⊢
        obtain ⟨kd2, nm2, nu2, ty2, rf2, ks2⟩ := nk
        dsimp only at HST HB7 y0 hk5 ⊢
        rcases hk5 with rfl | hk5
        ·
         simp at y0
         by_cases h3 : 18 = 3
         ·
          first
           | omega
           | skip
             have hst := HST.out
             rw [if_neg (fun h => h.2 h3)] at hst
             have q3 : (((18 : Nat) : Int) != 3) = false := by simp; omega
             have HS9 := Lib.hid hst
             clear hst HST
             go_wp2
             go_roundw
             case rel => exact ⟨i + 1, by rw [HS9.out]; exact congrArg (Value.int .i64) (by omega), by go_num, by omega, HB7.out⟩
             case measure => simp [intOf]; omega
         ·
          have hst := HST.out
          rw [if_pos ⟨rfl, h3⟩] at hst
          have q3 : (((18 : Nat) : Int) != 3) = true := by first | (simp; done) | (simp; omega)
          have HS9 := Lib.hid hst
          clear hst HST
          go_wp2
          go_roundw
          case rel => exact ⟨i + 1, by rw [HS9.out]; exact congrArg (Value.int .i64) (by omega), by go_num, by omega, HB7.out⟩
          case measure => simp [intOf]; omega
        ·
         simp at y0
         have hst := HST.out
         rw [if_neg (fun h => hk5 h.1)] at hst
         have q5 : ((kd2 : Int) == 5) = false := by simp; omega
         have HS9 := Lib.hid hst
         clear hst HST
         go_wp2
         go_roundw
         case rel => exact ⟨i + 1, by rw [HS9.out]; exact congrArg (Value.int .i64) (by omega), by go_num, by omega, HB7.out⟩
         case measure => simp [intOf]; omega
       ·
        obtain rfl : i = kids.length := by omega
        rw [List.take_length]
        have hml := Hg.dFold_le M l 18 kids
        have hfin := HFIN.out
        generalize kids.foldl (dStep M l 18) 0 = mo at hfin hml ⊢
        have HR9 := Lib.hid hfin
        clear hb hb4 hfin
        go_wp2
        go_ret
        have e9 : (r : Int) = 1 + (mo : Int) := by have := HR9.out; omega
        rw [e9]
        exact ⟨by first | rfl | (simp; done), HB4.out⟩
     by_cases h19 : kd = 19
     ·
      subst h19
      have hfin : r = 1 + kids.foldl (dStep M l 19) 0 := HFI.out
      clear HFI
      have HFIN := Lib.hid hfin
      clear hfin
      go_wp2
      generalize World.alloc w1 _ = W3 at hb3 hs3 hn3 ⊢
      have HB3 := Lib.hid hb3
      have HS := Lib.hid hs3
      have HN3 := Lib.hid hn3
      have hnl := (Array.getElem?_eq_some_iff.1 hn3).1
      generalize w1.heap.size = nb at HN3 hnl ⊢
      clear hb3 hs3 hn3
      go_loopw [10, 38] (fun p q wr => ∃ i : Nat, p = .int .i64 ((kids.take i).foldl (dStep M l 19) 0 : Nat) ∧ q = .int .i64 (i : Int) ∧ i ≤ kids.length ∧ Below W3.heap.size W3 wr) (fun _ q wr => kids.length - (intOf q).toNat)
      case atStart => exact ⟨0, by simp, rfl, Nat.zero_le _, Below.refl _ _⟩
      case round =>
       obtain ⟨i, rfl, rfl, hi, hb⟩ := hrel
       have HB := Lib.hid hb
       have hzr := hb.size
       have hb4 := HB3.out.trans (hb.mono HB3.out.size)
       have HB4 := Lib.hid hb4
       by_cases hlt : i < kids.length
       ·
        obtain ⟨b, o, rfl, _, kck⟩ := (HS.out.below hb (Nat.le_refl _)).mapAt hlt
        have hkt := HK.out _ (List.getElem_mem hlt)
        have hstep : (kids.take (i + 1)).foldl (dStep M l 19) 0 = dStep M l 19 ((kids.take i).foldl (dStep M l 19) 0) kids[i] := by
         rw [List.take_succ_eq_append_getElem hlt, List.foldl_append]
         rfl
        have hml := Hg.dFold_le M l 19 (kids.take i)
        generalize kids[i] = k at kck hkt hstep
        generalize (kids.take i).foldl (dStep M l 19) 0 = mo at hstep hml ⊢
        have HST := Lib.hid (show (kids.take (i + 1)).foldl (dStep M l 19) 0 = max mo (depthK M l k + (if (ndAt M k).kind = 5 ∧ 19 ≠ 3 then 1 else 0)) from hstep)
        have TD := Lib.hid (IH.out wr k (HA.out.below hb4) hkt)
        have hdl := Hg.depthK_le M l k
        clear hb hb4 hstep
        go_wp2_with fail
        refine TD.out.mono ?_
        rintro e w5 ⟨rfl, hb5⟩
        have HB5 := Lib.hid (HB.out.trans (hb5.mono hzr))
        have TG := Lib.hid ((HA.out.below (HB3.out.trans (HB5.out.mono HB3.out.size))).getN hkt)
        have hs5 := HB5.out.size
        generalize depthK M l k = d at HST hdl ⊢
        clear hb5 TD
        go_wp2_with fail
        refine TG.out.mono ?_
        rintro e w6 ⟨ka6, kc6, rfl, ho6, hb6⟩
        have hb7 := (HB5.out.trans (hb6.mono hs5)).alloc (HB5.out.trans (hb6.mono hs5)).size (.cells (ndCells (ndAt M k) ka6 kc6) 70)
        have HB7 := Lib.hid hb7
        have y0 := cell_of_row (w6.alloc (.cells (ndCells (ndAt M k) ka6 kc6) 70)) nb 0 _ _ (0, 0) ((hb7.block nb hnl).trans HN3.out)
        simp only [ndCells] at y0 HB7
        have hk5 : (ndAt M k).kind = 5 ∨ (ndAt M k).kind ≠ 5 := by omega
        clear TG ho6 hb6 hb7 kck
        generalize ndAt M k = nk at HST HB7 y0 hk5 ⊢
        obtain ⟨kd2, nm2, nu2, ty2, rf2, ks2⟩ := nk
        dsimp only at HST HB7 y0 hk5 ⊢
        rcases hk5 with rfl | hk5
        ·
         simp at y0
         by_cases h3 : 19 = 3
         ·
          first
           | omega
           | skip
             have hst := HST.out
             rw [if_neg (fun h => h.2 h3)] at hst
             have q3 : (((19 : Nat) : Int) != 3) = false := by simp; omega
             have HS9 := Lib.hid hst
             clear hst HST
             go_wp2
             go_roundw
             case rel => exact ⟨i + 1, by rw [HS9.out]; exact congrArg (Value.int .i64) (by omega), by go_num, by omega, HB7.out⟩
             case measure => simp [intOf]; omega
         ·
          have hst := HST.out
          rw [if_pos ⟨rfl, h3⟩] at hst
          have q3 : (((19 : Nat) : Int) != 3) = true := by first | (simp; done) | (simp; omega)
          have HS9 := Lib.hid hst
          clear hst HST
          go_wp2
          go_roundw
          case rel => exact ⟨i + 1, by rw [HS9.out]; exact congrArg (Value.int .i64) (by omega), by go_num, by omega, HB7.out⟩
          case measure => simp [intOf]; omega
        ·
         simp at y0
         have hst := HST.out
         rw [if_neg (fun h => hk5 h.1)] at hst
         have q5 : ((kd2 : Int) == 5) = false := by simp; omega
         have HS9 := Lib.hid hst
         clear hst HST
         go_wp2
         go_roundw
         case rel => exact ⟨i + 1, by rw [HS9.out]; exact congrArg (Value.int .i64) (by omega), by go_num, by omega, HB7.out⟩
         case measure => simp [intOf]; omega
       ·
        obtain rfl : i = kids.length := by omega
        rw [List.take_length]
        have hml := Hg.dFold_le M l 19 kids
        have hfin := HFIN.out
        generalize kids.foldl (dStep M l 19) 0 = mo at hfin hml ⊢
        have HR9 := Lib.hid hfin
        clear hb hb4 hfin
        go_wp2
        go_ret
        have e9 : (r : Int) = 1 + (mo : Int) := by have := HR9.out; omega
        rw [e9]
        exact ⟨by first | rfl | (simp; done), HB4.out⟩
     have hfin : r = 0 + kids.foldl (dStep M l kd) 0 := by
      have h := HFI.out
      rw [show ownD kd = 0 from by unfold ownD; rw [if_neg (by omega)]] at h
      exact h
     have q16 : ((kd : Int) == 16) = false := by simp; omega
     have q17 : ((kd : Int) == 17) = false := by simp; omega
     have q18 : ((kd : Int) == 18) = false := by simp; omega
     have q19 : ((kd : Int) == 19) = false := by simp; omega
     clear HFI
     have HFIN := Lib.hid hfin
     clear hfin
     go_wp2
     generalize World.alloc w1 _ = W3 at hb3 hs3 hn3 ⊢
     have HB3 := Lib.hid hb3
     have HS := Lib.hid hs3
     have HN3 := Lib.hid hn3
     have hnl := (Array.getElem?_eq_some_iff.1 hn3).1
     generalize w1.heap.size = nb at HN3 hnl ⊢
     clear hb3 hs3 hn3
     go_loopw [10, 38] (fun p q wr => ∃ i : Nat, p = .int .i64 ((kids.take i).foldl (dStep M l kd) 0 : Nat) ∧ q = .int .i64 (i : Int) ∧ i ≤ kids.length ∧ Below W3.heap.size W3 wr) (fun _ q wr => kids.length - (intOf q).toNat)
     case atStart => exact ⟨0, by simp, rfl, Nat.zero_le _, Below.refl _ _⟩
     case round =>
      obtain ⟨i, rfl, rfl, hi, hb⟩ := hrel
      have HB := Lib.hid hb
      have hzr := hb.size
      have hb4 := HB3.out.trans (hb.mono HB3.out.size)
      have HB4 := Lib.hid hb4
      by_cases hlt : i < kids.length
      ·
       obtain ⟨b, o, rfl, _, kck⟩ := (HS.out.below hb (Nat.le_refl _)).mapAt hlt
       have hkt := HK.out _ (List.getElem_mem hlt)
       have hstep : (kids.take (i + 1)).foldl (dStep M l kd) 0 = dStep M l kd ((kids.take i).foldl (dStep M l kd) 0) kids[i] := by
        rw [List.take_succ_eq_append_getElem hlt, List.foldl_append]
        rfl
       have hml := Hg.dFold_le M l kd (kids.take i)
       generalize kids[i] = k at kck hkt hstep
       generalize (kids.take i).foldl (dStep M l kd) 0 = mo at hstep hml ⊢
       have HST := Lib.hid (show (kids.take (i + 1)).foldl (dStep M l kd) 0 = max mo (depthK M l k + (if (ndAt M k).kind = 5 ∧ kd ≠ 3 then 1 else 0)) from hstep)
       have TD := Lib.hid (IH.out wr k (HA.out.below hb4) hkt)
       have hdl := Hg.depthK_le M l k
       clear hb hb4 hstep
       go_wp2_with fail
       refine TD.out.mono ?_
       rintro e w5 ⟨rfl, hb5⟩
       have HB5 := Lib.hid (HB.out.trans (hb5.mono hzr))
       have TG := Lib.hid ((HA.out.below (HB3.out.trans (HB5.out.mono HB3.out.size))).getN hkt)
       have hs5 := HB5.out.size
       generalize depthK M l k = d at HST hdl ⊢
       clear hb5 TD
       go_wp2_with fail
       refine TG.out.mono ?_
       rintro e w6 ⟨ka6, kc6, rfl, ho6, hb6⟩
       have hb7 := (HB5.out.trans (hb6.mono hs5)).alloc (HB5.out.trans (hb6.mono hs5)).size (.cells (ndCells (ndAt M k) ka6 kc6) 70)
       have HB7 := Lib.hid hb7
       have y0 := cell_of_row (w6.alloc (.cells (ndCells (ndAt M k) ka6 kc6) 70)) nb 0 _ _ (0, 0) ((hb7.block nb hnl).trans HN3.out)
       simp only [ndCells] at y0 HB7
       have hk5 : (ndAt M k).kind = 5 ∨ (ndAt M k).kind ≠ 5 := by omega
       clear TG ho6 hb6 hb7 kck
       generalize ndAt M k = nk at HST HB7 y0 hk5 ⊢
       obtain ⟨kd2, nm2, nu2, ty2, rf2, ks2⟩ := nk
       dsimp only at HST HB7 y0 hk5 ⊢
       rcases hk5 with rfl | hk5
       ·
        simp at y0
        by_cases h3 : kd = 3
        ·
         first
          | omega
          | skip
            have hst := HST.out
            rw [if_neg (fun h => h.2 h3)] at hst
            have q3 : (((kd : Nat) : Int) != 3) = false := by simp; omega
            have HS9 := Lib.hid hst
            clear hst HST
            go_wp2
            go_roundw
            case rel => exact ⟨i + 1, by rw [HS9.out]; exact congrArg (Value.int .i64) (by omega), by go_num, by omega, HB7.out⟩
            case measure => simp [intOf]; omega
        ·
         have hst := HST.out
         rw [if_pos ⟨rfl, h3⟩] at hst
         have q3 : (((kd : Nat) : Int) != 3) = true := by first | (simp; done) | (simp; omega)
         have HS9 := Lib.hid hst
         clear hst HST
         go_wp2
         go_roundw
         case rel => exact ⟨i + 1, by rw [HS9.out]; exact congrArg (Value.int .i64) (by omega), by go_num, by omega, HB7.out⟩
         case measure => simp [intOf]; omega
       ·
        simp at y0
        have hst := HST.out
        rw [if_neg (fun h => hk5 h.1)] at hst
        have q5 : ((kd2 : Int) == 5) = false := by simp; omega
        have HS9 := Lib.hid hst
        clear hst HST
        go_wp2
        go_roundw
        case rel => exact ⟨i + 1, by rw [HS9.out]; exact congrArg (Value.int .i64) (by omega), by go_num, by omega, HB7.out⟩
        case measure => simp [intOf]; omega
      ·
       obtain rfl : i = kids.length := by omega
       rw [List.take_length]
       have hml := Hg.dFold_le M l kd kids
       have hfin := HFIN.out
       generalize kids.foldl (dStep M l kd) 0 = mo at hfin hml ⊢
       have HR9 := Lib.hid hfin
       clear hb hb4 hfin
       go_wp2
       go_ret
       have e9 : (r : Int) = 0 + (mo : Int) := by have := HR9.out; omega
       rw [e9]
       exact ⟨by first | rfl | (simp; done), HB4.out⟩
end Go.Proofs.YtoelmnamlnbdhaaGreatDoor
