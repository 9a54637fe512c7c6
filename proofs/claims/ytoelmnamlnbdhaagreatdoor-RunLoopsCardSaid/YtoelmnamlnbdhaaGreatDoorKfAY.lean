/-
  Part of a proof of RunLoops: contracts of functions that the claim reaches, and plain lemmas.
-/
import Derived.Test.YtoelmnamlnbdhaaGreatDoorKfAX
set_option linter.all false
namespace Go.Proofs.YtoelmnamlnbdhaaGreatDoor
open Go.RowKit
open Hg (GT tkAt tkIs tkAt_get tkB tkB_lt tkB_is)
set_option maxHeartbeats 4000000 in
set_option maxRecDepth 100000 in
theorem expr_var (pb k d : Nat) (L : List Hg.Tok) (w : World) (hP : PaAt w pb L k d) (hk : k < L.length) (hL : L.length ≤ 1000000) (h1 : (tkAt L k).kind = 1) (hk1 : k + 1 < L.length) (hd : tkIs L (k + 1) [46] = false) :
 Calls Tryz.prog 50 #[.pointer (some ⟨pb, 0, none⟩)] w (PaRes w pb L (k + 1) d (Hg.gmk 15 0 (tkAt L k).text [])) := by
 have TM := Lib.hid (fun X (hp : PaAt X pb L k d) => name_any pb k d L X hp hk hL h1)
 have TI := Lib.hid (fun X (hp : PaAt X pb L (k + 1) d) => is_any pb (k + 1) d L [46] X hp hk1 hL)
 rw [hd] at TI
 have hq1 : (((tkAt L k).kind : Int) == 2) = false := by simp [h1]
 have hq2 : (((tkAt L k).kind : Int) == 1) = true := by simp [h1]
 clear h1 hd
 have hlt := hP.lt
 have TN := fun X (hp : PaAt X pb L k d) => now_any pb k d L X hp hk hL
 obtain ⟨g0, g1, g2, hbA, hzA⟩ := alloc3 w (.cells #[.pointer (some ⟨pb, 0, none⟩)] 38) (.cells (gtCells (Hg.ndK 0) [] [] (.slice none 0 0) (.slice none 0 0) 0) 72) (.cells #[.pointer (some ⟨w.heap.size + 1, 0, none⟩)] 41)
 have HT := Lib.hid (show TrBox w pb (w.heap.size + 1) (Hg.ndK 0) [] [] _ (.slice none 0 0) [] from ⟨below_grown50 hbA (some pb), hlt, by omega, g0, g2, KidsAt.new g1 (by omega) (by omega)⟩)
 have HP := Lib.hid (hP.keep (hbA.mono hlt))
 have TN := Lib.hid (TN _ HP.out)
 generalize tkAt L k = t at *
 clear hbA hzA g0 g1 g2 hP
 go_enter Tryz.func50, Tryz.ntmps50
 go_wp2_with fail
 refine TN.out.mono ?_
 clear TN
 generalize World.alloc (World.alloc (World.alloc w _) _) _ = W3 at HT HP ⊢
 rintro e w1 ⟨rfl, hb1⟩
 have HT1 := Lib.hid (HT.out.keep (below_grown50 hb1 (some pb)))
 have HP1 := Lib.hid (HP.out.keep (hb1.mono HP.out.lt))
 clear hb1 HT HP
 have hbt : Below w1.heap.size w1 (w1.alloc (.cells #[.int .u8 (t.kind : Int), strV t.text, .int .i64 (t.pos : Int)] 65)) := (Below.refl _ _).alloc (Nat.le_refl _) _
 have HT2 := Lib.hid (HT1.out.keep (below_grown50 hbt (some pb)))
 have HP2 := Lib.hid (HP1.out.keep (hbt.mono HP1.out.lt))
 have htk := heap_alloc_new w1 (.cells #[.int .u8 (t.kind : Int), strV t.text, .int .i64 (t.pos : Int)] 65)
 have hbl : w.heap.size + 1 + 1 < w1.heap.size := by have := HT1.out.kd.sz; omega
 clear hbt HT1 HP1
 go_upto_region 4 with fail
 generalize w1.heap.size = tb at htk hbl ⊢
 generalize World.alloc w1 _ = w2 at HT2 HP2 htk ⊢
 have k0 := cell_of_row w2 tb 0 _ _ (0, 0) htk
 simp at k0
 obtain ⟨c0, c1, -, -⟩ := HT2.out.cells
 generalize hDz : w.heap.size = b0 at c0 c1 hbl ⊢
 have HD := Lib.hid hDz
 clear hDz
 go_wp2_with fail
 refine (TM.out _ HP2.out).mono ?_
 rintro e w3 ⟨rfl, hp3, hg3⟩
 have HT3 := Lib.hid (HT2.out.keep hg3)
 have HP3 := Lib.hid hp3
 clear hp3 hg3 TM HT2 HP2 c0 c1 k0 htk
 obtain ⟨c0, c1, -, -⟩ := HT3.out.cells
 rw [HD.out] at c0 c1
 go_wp2_with fail
 refine (TI.out _ HP3.out).mono ?_
 rintro e w4 ⟨rfl, hb4⟩
 have HT4 := Lib.hid (HT3.out.keep (below_grown50 hb4 (some pb)))
 have HP4 := Lib.hid (HP3.out.keep (hb4.mono HP3.out.lt))
 clear hb4 TI HT3 HP3 c0 c1
 obtain ⟨c0, c1, -, -⟩ := HT4.out.cells
 rw [HD.out] at c0 c1
 have z0 := cell_of_row w4 (b0 + 1) 0 _ _ (0, 0) (by have := HT4.out.kd.hh; rw [HD.out] at this; exact this)
 simp at z0
 have zf : ∀ i, w4.frozen? ⟨b0 + 1, i, none⟩ = false := by have := HT4.out.cells.2.2.2; rw [HD.out] at this; exact this
 go_upto_region 10 with fail
 have hHeld : (fun w' => w'.cell? ⟨b0 + 1 + 1, 0, none⟩ = some (.pointer (some ⟨b0 + 1, 0, none⟩))) w4.drew := c1
 refine wp_region_two (fun w' => w'.cell? ⟨b0 + 1 + 1, 0, none⟩ = some (.pointer (some ⟨b0 + 1, 0, none⟩))) 9 (by kernel_rfl) ?_
 refine tk 0 ?_ rfl (by kernel_rfl) (fun _ _ _ h => h) ‹_› (by rfl) ?_ ?_
 rotate_left
 · (intro w' hSw; (try dsimp only at hSw); go_simp; try with_reducible rfl)
 try simp only [Act.put, sA, sB, sC, sD, sE, sF]
 refine tk 1 ?_ rfl (by kernel_rfl) (fun _ _ _ h => h) ‹_› (by rfl) ?_ ?_
 rotate_left
 · (intro w' hSw; (try dsimp only at hSw); go_simp; try with_reducible rfl)
 try simp only [Act.put, sA, sB, sC, sD, sE, sF]
 refine tk 2 ?_ rfl (by kernel_rfl) (fun _ _ _ h => h) ‹_› (by rfl) ?_ ?_
 rotate_left
 · (intro w' hSw; (try dsimp only at hSw); go_simp; try with_reducible rfl)
 try simp only [Act.put, sA, sB, sC, sD, sE, sF]
 refine tk 3 ?_ rfl (by kernel_rfl) (fun _ _ _ h => h) ‹_› (by rfl) ?_ ?_
 rotate_left
 · (intro w' hSw; (try dsimp only at hSw); go_simp; try with_reducible rfl)
 try simp only [Act.put, sA, sB, sC, sD, sE, sF]
 refine tk 4 ?_ rfl (by kernel_rfl) (fun _ _ _ h => h) ‹_› (by rfl) ?_ ?_
 rotate_left
 · (intro w' hSw; (try dsimp only at hSw); go_simp; try with_reducible rfl)
 try simp only [Act.put, sA, sB, sC, sD, sE, sF]
 refine tk 5 ?_ rfl (by kernel_rfl) (fun _ _ _ h => h) ‹_› (by rfl) ?_ ?_
 rotate_left
 · (intro w' hSw; (try dsimp only at hSw); go_simp; try with_reducible rfl)
 try simp only [Act.put, sA, sB, sC, sD, sE, sF]
 refine wpAnyT_one (i := 6) rfl (by kernel_rfl) (fun K hK => ?_)
 go_simp
 have HT5 := Lib.hid (show TrBox w pb (w.heap.size + 1) (Hg.ndK 15) [] [] (w4.setCell ⟨b0 + 1, 0, none⟩ (.int .u8 15)) (.slice none 0 0) [] from by rw [← HD.out]; exact HT4.out.set rfl)
 have HP5 := Lib.hid (show PaAt (w4.setCell ⟨b0 + 1, 0, none⟩ (.int .u8 15)) pb L (k + 1) d from HP4.out.field (by have := HD.out; omega) 0 _)
 generalize World.setCell w4 _ _ = w5 at HT5 HP5 ⊢
 have hc5 := HT5.out.cells
 rw [HD.out] at hc5
 clear HT4 HP4 z0 zf c0 c1
 refine hK.out _ _ (hc5.2.1) (fun hHeld => ?_)
 clear hK K
 try simp only [Act.put, sA, sB, sC, sD, sE, sF]
 refine tk 7 ?_ rfl (by kernel_rfl) (fun _ _ _ h => h) ‹_› (by rfl) ?_ ?_
 rotate_left
 · (intro w' hSw; (try dsimp only at hSw); go_simp; try with_reducible rfl)
 try simp only [Act.put, sA, sB, sC, sD, sE, sF]
 refine tk 8 ?_ rfl (by kernel_rfl) (fun _ _ _ h => h) ‹_› (by rfl) ?_ ?_
 rotate_left
 · (intro w' hSw; (try dsimp only at hSw); go_simp; try with_reducible rfl)
 try simp only [Act.put, sA, sB, sC, sD, sE, sF]
 refine wpAnyT_tail (by kernel_rfl) ?_
 simp only [List.drop_succ_cons, List.drop_zero]
 have z7 := cell_of_row w5 (b0 + 1) 7 _ _ (0, 0) (by have := HT5.out.kd.hh; rw [HD.out] at this; exact this)
 simp at z7
 have zf := hc5.2.2.2
 have HT6 := Lib.hid (show TrBox w pb (w.heap.size + 1) (Hg.ndK 15) [] t.text (w5.setCell ⟨b0 + 1, 7, none⟩ (strV t.text)) (.slice none 0 0) [] from by rw [← HD.out]; exact HT5.out.set rfl)
 have HP6 := Lib.hid (show PaAt (w5.setCell ⟨b0 + 1, 7, none⟩ (strV t.text)) pb L (k + 1) d from HP5.out.field (by have := HD.out; omega) 7 _)
 clear hc5 HT5 HP5
 go_upto_region 27 with fail
 clear z7 zf hHeld
 generalize World.setCell w5 _ _ = w6 at HT6 HP6 ⊢
 have HT6 := Lib.hid HT6.out.drew
 have HP6 := Lib.hid HP6.out.drew
 obtain ⟨c0, c1, -, -⟩ := HT6.out.cells
 rw [HD.out] at c0 c1
 go_wp2
 go_ret
 exact ⟨GT.mk (b0 + 1) (Hg.ndK 15) [] t.text [], rfl, rfl, by rw [← HD.out]; exact HT6.out.kd.tree.down (by omega), HP6.out, HT6.out.gr⟩
set_option maxHeartbeats 4000000 in
set_option maxRecDepth 100000 in
theorem expr_call (pb k k1 d : Nat) (L : List Hg.Tok) (a : GT) (w : World) (hP : PaAt w pb L k d) (hk : k < L.length) (hL : L.length ≤ 1000000) (h1 : (tkAt L k).kind = 1) (hk1 : k + 1 < L.length) (hd : tkIs L (k + 1) [46] = true)
 (hC : ∀ X, PaAt X pb L (k + 1) d → Calls Tryz.prog 83 #[.pointer (some ⟨pb, 0, none⟩), strV (tkAt L k).text] X (PaRes X pb L k1 d a)) :
 Calls Tryz.prog 50 #[.pointer (some ⟨pb, 0, none⟩)] w (PaRes w pb L k1 d a) := by
 have TM := Lib.hid (fun X (hp : PaAt X pb L k d) => name_any pb k d L X hp hk hL h1)
 have TI := Lib.hid (fun X (hp : PaAt X pb L (k + 1) d) => is_any pb (k + 1) d L [46] X hp hk1 hL)
 rw [hd] at TI
 have TC := Lib.hid hC
 have hq1 : (((tkAt L k).kind : Int) == 2) = false := by simp [h1]
 have hq2 : (((tkAt L k).kind : Int) == 1) = true := by simp [h1]
 clear h1 hd hC
 have hlt := hP.lt
 have TN := fun X (hp : PaAt X pb L k d) => now_any pb k d L X hp hk hL
 obtain ⟨g0, g1, g2, hbA, hzA⟩ := alloc3 w (.cells #[.pointer (some ⟨pb, 0, none⟩)] 38) (.cells (gtCells (Hg.ndK 0) [] [] (.slice none 0 0) (.slice none 0 0) 0) 72) (.cells #[.pointer (some ⟨w.heap.size + 1, 0, none⟩)] 41)
 have HT := Lib.hid (show TrBox w pb (w.heap.size + 1) (Hg.ndK 0) [] [] _ (.slice none 0 0) [] from ⟨below_grown50 hbA (some pb), hlt, by omega, g0, g2, KidsAt.new g1 (by omega) (by omega)⟩)
 have HP := Lib.hid (hP.keep (hbA.mono hlt))
 have TN := Lib.hid (TN _ HP.out)
 generalize tkAt L k = t at *
 clear hbA hzA g0 g1 g2 hP
 go_enter Tryz.func50, Tryz.ntmps50
 go_wp2_with fail
 refine TN.out.mono ?_
 clear TN
 generalize World.alloc (World.alloc (World.alloc w _) _) _ = W3 at HT HP ⊢
 rintro e w1 ⟨rfl, hb1⟩
 have HT1 := Lib.hid (HT.out.keep (below_grown50 hb1 (some pb)))
 have HP1 := Lib.hid (HP.out.keep (hb1.mono HP.out.lt))
 clear hb1 HT HP
 have hbt : Below w1.heap.size w1 (w1.alloc (.cells #[.int .u8 (t.kind : Int), strV t.text, .int .i64 (t.pos : Int)] 65)) := (Below.refl _ _).alloc (Nat.le_refl _) _
 have HT2 := Lib.hid (HT1.out.keep (below_grown50 hbt (some pb)))
 have HP2 := Lib.hid (HP1.out.keep (hbt.mono HP1.out.lt))
 have htk := heap_alloc_new w1 (.cells #[.int .u8 (t.kind : Int), strV t.text, .int .i64 (t.pos : Int)] 65)
 have hbl : w.heap.size + 1 + 1 < w1.heap.size := by have := HT1.out.kd.sz; omega
 clear hbt HT1 HP1
 go_upto_region 4 with fail
 generalize w1.heap.size = tb at htk hbl ⊢
 generalize World.alloc w1 _ = w2 at HT2 HP2 htk ⊢
 have k0 := cell_of_row w2 tb 0 _ _ (0, 0) htk
 simp at k0
 obtain ⟨c0, c1, -, -⟩ := HT2.out.cells
 generalize hDz : w.heap.size = b0 at c0 c1 hbl ⊢
 have HD := Lib.hid hDz
 clear hDz
 go_wp2_with fail
 refine (TM.out _ HP2.out).mono ?_
 rintro e w3 ⟨rfl, hp3, hg3⟩
 have HT3 := Lib.hid (HT2.out.keep hg3)
 have HP3 := Lib.hid hp3
 clear hp3 hg3 TM HT2 HP2 c0 c1 k0 htk
 obtain ⟨c0, c1, -, -⟩ := HT3.out.cells
 rw [HD.out] at c0 c1
 go_wp2_with fail
 refine (TI.out _ HP3.out).mono ?_
 rintro e w4 ⟨rfl, hb4⟩
 have HT4 := Lib.hid (HT3.out.keep (below_grown50 hb4 (some pb)))
 have HP4 := Lib.hid (HP3.out.keep (hb4.mono HP3.out.lt))
 clear hb4 TI HT3 HP3 c0 c1
 obtain ⟨c0, c1, -, -⟩ := HT4.out.cells
 rw [HD.out] at c0 c1
 go_wp2_with fail
 refine (TC.out _ HP4.out).mono ?_
 rintro e w5 ⟨tc, rfl, hera, hF, hp, hg⟩
 have HE := Lib.hid (show _ ∧ _ ∧ _ ∧ _ from ⟨hera, hF, hp, hg⟩)
 clear hera hF hp hg TC c0 c1
 go_wp2
 go_ret
 exact ⟨tc, rfl, HE.out.1, HE.out.2.1.down HT4.out.gr.size, HE.out.2.2.1, grown_trans HT4.out.gr HE.out.2.2.2⟩
set_option maxHeartbeats 4000000 in
set_option maxRecDepth 100000 in
theorem expr_num (pb k d n : Nat) (L : List Hg.Tok) (w : World) (hP : PaAt w pb L k d) (hk : k < L.length) (hL : L.length ≤ 1000000) (h2 : (tkAt L k).kind = 2) (hn : n < 256) (ht : (tkAt L k).text = Hg.numT n) :
 Calls Tryz.prog 50 #[.pointer (some ⟨pb, 0, none⟩)] w (PaRes w pb L (k + 1) d (Hg.gmk 13 n [] [])) := by
 have hw1 : IntKind.i64.wrap ((k : Int) + 1) = (k : Int) + 1 := IntWalk.i64_in _ (by omega)
 have TV := Lib.hid (fun W => value_any (tkAt L k) n hn ht h2 W)
 have hq2 : (((tkAt L k).kind : Int) == 2) = true := by simp [h2]
 clear h2 ht
 have hlt := hP.lt
 have TN := fun X (hp : PaAt X pb L k d) => now_any pb k d L X hp hk hL
 obtain ⟨g0, g1, g2, hbA, hzA⟩ := alloc3 w (.cells #[.pointer (some ⟨pb, 0, none⟩)] 38) (.cells (gtCells (Hg.ndK 0) [] [] (.slice none 0 0) (.slice none 0 0) 0) 72) (.cells #[.pointer (some ⟨w.heap.size + 1, 0, none⟩)] 41)
 have HT := Lib.hid (show TrBox w pb (w.heap.size + 1) (Hg.ndK 0) [] [] _ (.slice none 0 0) [] from ⟨below_grown50 hbA (some pb), hlt, by omega, g0, g2, KidsAt.new g1 (by omega) (by omega)⟩)
 have HP := Lib.hid (hP.keep (hbA.mono hlt))
 have TN := Lib.hid (TN _ HP.out)
 generalize tkAt L k = t at *
 clear hbA hzA g0 g1 g2 hP
 go_enter Tryz.func50, Tryz.ntmps50
 go_wp2_with fail
 refine TN.out.mono ?_
 clear TN
 generalize World.alloc (World.alloc (World.alloc w _) _) _ = W3 at HT HP ⊢
 rintro e w1 ⟨rfl, hb1⟩
 have HT1 := Lib.hid (HT.out.keep (below_grown50 hb1 (some pb)))
 have HP1 := Lib.hid (HP.out.keep (hb1.mono HP.out.lt))
 clear hb1 HT HP
 have hbt : Below w1.heap.size w1 (w1.alloc (.cells #[.int .u8 (t.kind : Int), strV t.text, .int .i64 (t.pos : Int)] 65)) := (Below.refl _ _).alloc (Nat.le_refl _) _
 have HT2 := Lib.hid (HT1.out.keep (below_grown50 hbt (some pb)))
 have HP2 := Lib.hid (HP1.out.keep (hbt.mono HP1.out.lt))
 have htk := heap_alloc_new w1 (.cells #[.int .u8 (t.kind : Int), strV t.text, .int .i64 (t.pos : Int)] 65)
 have hbl : w.heap.size + 1 + 1 < w1.heap.size := by have := HT1.out.kd.sz; omega
 clear hbt HT1 HP1
 go_upto_region 4 with fail
 generalize w1.heap.size = tb at htk hbl ⊢
 generalize World.alloc w1 _ = w2 at HT2 HP2 htk ⊢
 have k0 := cell_of_row w2 tb 0 _ _ (0, 0) htk
 simp at k0
 obtain ⟨c0, c1, -, -⟩ := HT2.out.cells
 generalize hDz : w.heap.size = b0 at c0 c1 hbl ⊢
 have HD := Lib.hid hDz
 clear hDz
 have k1 := cell_of_row w2 tb 1 _ _ (0, 0) htk
 have k2 := cell_of_row w2 tb 2 _ _ (0, 0) htk
 simp at k1 k2
 obtain ⟨pa, pc, p0, p1, p2, p3, f0, hsl⟩ := HP2.out.read
 have hpl := HP2.out.lt
 have htp : ¬ tb = pb := by have := HD.out; omega
 have HT3 := Lib.hid (show TrBox w pb (w.heap.size + 1) (Hg.ndK 0) [] [] (w2.setCell ⟨pb, 1, none⟩ (.int .i64 ((k + 1 : Nat) : Int))) (.slice none 0 0) [] from HT2.out.pfield 1 _)
 have HP3 := Lib.hid (show PaAt (w2.setCell ⟨pb, 1, none⟩ (.int .i64 ((k + 1 : Nat) : Int))) pb L (k + 1) d from HP2.out.set)
 have x0 := (cell_set_ne (w := w2) (p := ⟨pb, 1, none⟩) (q := ⟨tb, 0, none⟩) (fun e => htp e.symm) (.int .i64 ((k + 1 : Nat) : Int))).trans k0
 have x1 := (cell_set_ne (w := w2) (p := ⟨pb, 1, none⟩) (q := ⟨tb, 1, none⟩) (fun e => htp e.symm) (.int .i64 ((k + 1 : Nat) : Int))).trans k1
 have x2 := (cell_set_ne (w := w2) (p := ⟨pb, 1, none⟩) (q := ⟨tb, 2, none⟩) (fun e => htp e.symm) (.int .i64 ((k + 1 : Nat) : Int))).trans k2
 clear hsl HT2 HP2 htk
 push_cast at HT3 HP3 x0 x1 x2
 go_upto_region 6 with fail
 clear k0 k1 k2 p0 p1 p2 p3 f0 hpl c0 c1
 generalize World.setCell w2 _ _ = w3 at HT3 HP3 x0 x1 x2 ⊢
 have HT3 := Lib.hid HT3.out.drew
 have HP3 := Lib.hid HP3.out.drew
 obtain ⟨c0, c1, -, -⟩ := HT3.out.cells
 rw [HD.out] at c0 c1
 have hHeld : (fun w' => w'.cell? ⟨b0 + 1 + 1, 0, none⟩ = some (.pointer (some ⟨b0 + 1, 0, none⟩)) ∧ w'.cell? ⟨tb, 0, none⟩ = some (.int .u8 (t.kind : Int)) ∧ w'.cell? ⟨tb, 1, none⟩ = some (strV t.text) ∧ w'.cell? ⟨tb, 2, none⟩ = some (.int .i64 (t.pos : Int))) w3.drew := ⟨c1, x0, x1, x2⟩
 have hnt : ¬ b0 + 1 = tb := by omega
 refine wp_region_two (fun w' => w'.cell? ⟨b0 + 1 + 1, 0, none⟩ = some (.pointer (some ⟨b0 + 1, 0, none⟩)) ∧ w'.cell? ⟨tb, 0, none⟩ = some (.int .u8 (t.kind : Int)) ∧ w'.cell? ⟨tb, 1, none⟩ = some (strV t.text) ∧ w'.cell? ⟨tb, 2, none⟩ = some (.int .i64 (t.pos : Int))) 11 (by kernel_rfl) ?_
 refine tk 0 ?_ rfl (by kernel_rfl) (fun _ _ _ h => h) ‹_› (by rfl) ?_ ?_
 rotate_left
 · (intro w' hSw; (try dsimp only at hSw); go_simp; try with_reducible rfl)
 try simp only [Act.put, sA, sB, sC, sD, sE, sF]
 refine tk 1 ?_ rfl (by kernel_rfl) (fun _ _ _ h => h) ‹_› (by rfl) ?_ ?_
 rotate_left
 · (intro w' hSw; (try dsimp only at hSw); go_simp; try with_reducible rfl)
 try simp only [Act.put, sA, sB, sC, sD, sE, sF]
 refine tk 2 ?_ rfl (by kernel_rfl) (fun _ _ _ h => h) ‹_› (by rfl) ?_ ?_
 rotate_left
 · (intro w' hSw; (try dsimp only at hSw); go_simp; try with_reducible rfl)
 try simp only [Act.put, sA, sB, sC, sD, sE, sF]
 refine wpAnyT_one (i := 3) rfl (by kernel_rfl) (fun K hK => ?_)
 go_simp
 refine (TV.out w3.drew).mono ?_
 rintro e w4 ⟨rfl, hb4⟩
 have HT4 := Lib.hid (HT3.out.keep (below_grown50 hb4 (some pb)))
 have HP4 := Lib.hid (HP3.out.keep (hb4.mono HP3.out.lt))
 have hc4 := HT4.out.cells
 rw [HD.out] at hc4
 have z0 := cell_of_row w4 (b0 + 1) 0 _ _ (0, 0) (by have := HT4.out.kd.hh; rw [HD.out] at this; exact this)
 simp at z0
 have zf := hc4.2.2.2
 clear HT3 HP3 c0 c1
 refine hK.out _ _ (⟨hc4.2.1, below_cell hb4 (Nat.le_refl _) hHeld.2.1, below_cell hb4 (Nat.le_refl _) hHeld.2.2.1, below_cell hb4 (Nat.le_refl _) hHeld.2.2.2⟩) (fun hHeld => ?_)
 clear hK K
 try simp only [Act.put, sA, sB, sC, sD, sE, sF]
 refine tk 4 ?_ rfl (by kernel_rfl) (fun _ _ _ h => h) ‹_› (by rfl) ?_ ?_
 rotate_left
 · (intro w' hSw; (try dsimp only at hSw); go_simp; try with_reducible rfl)
 try simp only [Act.put, sA, sB, sC, sD, sE, sF]
 refine tk 5 ?_ rfl (by kernel_rfl) (fun _ _ _ h => h) ‹_› (by rfl) ?_ ?_
 rotate_left
 · (intro w' hSw; (try dsimp only at hSw); go_simp; try with_reducible rfl)
 try simp only [Act.put, sA, sB, sC, sD, sE, sF]
 refine tk 6 ?_ rfl (by kernel_rfl) (fun _ _ _ h => h) ‹_› (by rfl) ?_ ?_
 rotate_left
 · (intro w' hSw; (try dsimp only at hSw); go_simp; try with_reducible rfl)
 try simp only [Act.put, sA, sB, sC, sD, sE, sF]
 refine wpAnyT_one (i := 7) rfl (by kernel_rfl) (fun K hK => ?_)
 go_simp
 have HT5 := Lib.hid (show TrBox w pb (w.heap.size + 1) (Hg.ndK 13) [] [] (w4.setCell ⟨b0 + 1, 0, none⟩ (.int .u8 13)) (.slice none 0 0) [] from by rw [← HD.out]; exact HT4.out.set rfl)
 have HP5 := Lib.hid (show PaAt (w4.setCell ⟨b0 + 1, 0, none⟩ (.int .u8 13)) pb L (k + 1) d from HP4.out.field (by have := HD.out; omega) 0 _)
 have y := (And.intro ((cell_set_ne (w := w4) (p := ⟨b0 + 1, 0, none⟩) (q := ⟨tb, 0, none⟩) hnt (.int .u8 13)).trans hHeld.2.1) (And.intro ((cell_set_ne (w := w4) (p := ⟨b0 + 1, 0, none⟩) (q := ⟨tb, 1, none⟩) hnt (.int .u8 13)).trans hHeld.2.2.1) ((cell_set_ne (w := w4) (p := ⟨b0 + 1, 0, none⟩) (q := ⟨tb, 2, none⟩) hnt (.int .u8 13)).trans hHeld.2.2.2)))
 generalize World.setCell w4 _ _ = w5 at HT5 HP5 y ⊢
 have hc5 := HT5.out.cells
 rw [HD.out] at hc5
 clear HT4 HP4 z0 zf hc4
 refine hK.out _ _ (⟨hc5.2.1, y.1, y.2.1, y.2.2⟩) (fun hHeld => ?_)
 clear hK K
 try simp only [Act.put, sA, sB, sC, sD, sE, sF]
 refine tk 8 ?_ rfl (by kernel_rfl) (fun _ _ _ h => h) ‹_› (by rfl) ?_ ?_
 rotate_left
 · (intro w' hSw; (try dsimp only at hSw); go_simp; try with_reducible rfl)
 try simp only [Act.put, sA, sB, sC, sD, sE, sF]
 refine tk 9 ?_ rfl (by kernel_rfl) (fun _ _ _ h => h) ‹_› (by rfl) ?_ ?_
 rotate_left
 · (intro w' hSw; (try dsimp only at hSw); go_simp; try with_reducible rfl)
 try simp only [Act.put, sA, sB, sC, sD, sE, sF]
 refine tk 10 ?_ rfl (by kernel_rfl) (fun _ _ _ h => h) ‹_› (by rfl) ?_ ?_
 rotate_left
 · (intro w' hSw; (try dsimp only at hSw); go_simp; try with_reducible rfl)
 try simp only [Act.put, sA, sB, sC, sD, sE, sF]
 refine wpAnyT_tail (by kernel_rfl) ?_
 simp only [List.drop_succ_cons, List.drop_zero]
 have z2 := cell_of_row w5 (b0 + 1) 2 _ _ (0, 0) (by have := HT5.out.kd.hh; rw [HD.out] at this; exact this)
 simp at z2
 have zf := hc5.2.2.2
 have HT6 := Lib.hid (show TrBox w pb (w.heap.size + 1) ⟨13, [], (n : Int), 0, 0, []⟩ [] [] (w5.setCell ⟨b0 + 1, 2, none⟩ (.int .i64 (n : Int))) (.slice none 0 0) [] from by rw [← HD.out]; exact HT5.out.set rfl)
 have HP6 := Lib.hid (show PaAt (w5.setCell ⟨b0 + 1, 2, none⟩ (.int .i64 (n : Int))) pb L (k + 1) d from HP5.out.field (by have := HD.out; omega) 2 _)
 clear hc5 HT5 HP5 y
 go_upto_region 27 with fail
 clear z2 zf hHeld
 generalize World.setCell w5 _ _ = w6 at HT6 HP6 ⊢
 obtain ⟨c0, c1, -, -⟩ := HT6.out.cells
 rw [HD.out] at c0 c1
 go_wp2
 go_ret
 exact ⟨GT.mk (b0 + 1) ⟨13, [], (n : Int), 0, 0, []⟩ [] [] [], rfl, rfl, by rw [← HD.out]; exact HT6.out.kd.tree.down (by omega), HP6.out, HT6.out.gr⟩
end Go.Proofs.YtoelmnamlnbdhaaGreatDoor
namespace Go.Proofs.YtoelmnamlnbdhaaGreatDoor
open Go.RowKit
open Hg (GT tkAt tkIs tkAt_get tkB tkB_lt tkB_is)
set_option maxHeartbeats 4000000 in
set_option maxRecDepth 100000 in
theorem expr_true (pb k d : Nat) (L : List Hg.Tok) (w : World) (hP : PaAt w pb L k d) (hk : k < L.length) (hL : L.length ≤ 1000000) (h2 : ¬ (tkAt L k).kind = 2) (h1 : ¬ (tkAt L k).kind = 1) (ht : tkIs L k Hg.wTrue = true) :
 Calls Tryz.prog 50 #[.pointer (some ⟨pb, 0, none⟩)] w (PaRes w pb L (k + 1) d (Hg.gmk 14 1 [] [])) := by
 have TT := Lib.hid (fun X (hp : PaAt X pb L k d) => take_yes pb k d L Hg.wTrue X hp hk hL ht)
 have hq1 : (((tkAt L k).kind : Int) == 2) = false := by simpa using (show ¬ ((tkAt L k).kind : Int) = 2 by omega)
 have hq2 : (((tkAt L k).kind : Int) == 1) = false := by simpa using (show ¬ ((tkAt L k).kind : Int) = 1 by omega)
 clear h1 h2 ht
 have hlt := hP.lt
 have TN := fun X (hp : PaAt X pb L k d) => now_any pb k d L X hp hk hL
 obtain ⟨g0, g1, g2, hbA, hzA⟩ := alloc3 w (.cells #[.pointer (some ⟨pb, 0, none⟩)] 38) (.cells (gtCells (Hg.ndK 0) [] [] (.slice none 0 0) (.slice none 0 0) 0) 72) (.cells #[.pointer (some ⟨w.heap.size + 1, 0, none⟩)] 41)
 have HT := Lib.hid (show TrBox w pb (w.heap.size + 1) (Hg.ndK 0) [] [] _ (.slice none 0 0) [] from ⟨below_grown50 hbA (some pb), hlt, by omega, g0, g2, KidsAt.new g1 (by omega) (by omega)⟩)
 have HP := Lib.hid (hP.keep (hbA.mono hlt))
 have TN := Lib.hid (TN _ HP.out)
 generalize tkAt L k = t at *
 clear hbA hzA g0 g1 g2 hP
 go_enter Tryz.func50, Tryz.ntmps50
 go_wp2_with fail
 refine TN.out.mono ?_
 clear TN
 generalize World.alloc (World.alloc (World.alloc w _) _) _ = W3 at HT HP ⊢
 rintro e w1 ⟨rfl, hb1⟩
 have HT1 := Lib.hid (HT.out.keep (below_grown50 hb1 (some pb)))
 have HP1 := Lib.hid (HP.out.keep (hb1.mono HP.out.lt))
 clear hb1 HT HP
 have hbt : Below w1.heap.size w1 (w1.alloc (.cells #[.int .u8 (t.kind : Int), strV t.text, .int .i64 (t.pos : Int)] 65)) := (Below.refl _ _).alloc (Nat.le_refl _) _
 have HT2 := Lib.hid (HT1.out.keep (below_grown50 hbt (some pb)))
 have HP2 := Lib.hid (HP1.out.keep (hbt.mono HP1.out.lt))
 have htk := heap_alloc_new w1 (.cells #[.int .u8 (t.kind : Int), strV t.text, .int .i64 (t.pos : Int)] 65)
 have hbl : w.heap.size + 1 + 1 < w1.heap.size := by have := HT1.out.kd.sz; omega
 clear hbt HT1 HP1
 go_upto_region 4 with fail
 generalize w1.heap.size = tb at htk hbl ⊢
 generalize World.alloc w1 _ = w2 at HT2 HP2 htk ⊢
 have k0 := cell_of_row w2 tb 0 _ _ (0, 0) htk
 simp at k0
 obtain ⟨c0, c1, -, -⟩ := HT2.out.cells
 generalize hDz : w.heap.size = b0 at c0 c1 hbl ⊢
 have HD := Lib.hid hDz
 clear hDz
 go_wp2_with fail
 refine (TT.out _ HP2.out).mono ?_
 rintro e w4 ⟨rfl, hp, hg⟩
 have HT4 := Lib.hid (HT2.out.keep hg)
 have HP4 := Lib.hid hp
 clear hp hg TT HT2 HP2 c0 c1
 obtain ⟨c0, c1, -, -⟩ := HT4.out.cells
 rw [HD.out] at c0 c1
 clear c0 c1
 obtain ⟨c0, c1, -, -⟩ := HT4.out.cells
 rw [HD.out] at c0 c1
 have z0 := cell_of_row w4 (b0 + 1) 0 _ _ (0, 0) (by have := HT4.out.kd.hh; rw [HD.out] at this; exact this)
 simp at z0
 have zf : ∀ i, w4.frozen? ⟨b0 + 1, i, none⟩ = false := by have := HT4.out.cells.2.2.2; rw [HD.out] at this; exact this
 go_upto_region 13 with fail
 have hHeld : (fun w' => w'.cell? ⟨b0 + 1 + 1, 0, none⟩ = some (.pointer (some ⟨b0 + 1, 0, none⟩))) w4.drew := c1
 refine wp_region_two (fun w' => w'.cell? ⟨b0 + 1 + 1, 0, none⟩ = some (.pointer (some ⟨b0 + 1, 0, none⟩))) 9 (by kernel_rfl) ?_
 refine tk 0 ?_ rfl (by kernel_rfl) (fun _ _ _ h => h) ‹_› (by rfl) ?_ ?_
 rotate_left
 · (intro w' hSw; (try dsimp only at hSw); go_simp; try with_reducible rfl)
 try simp only [Act.put, sA, sB, sC, sD, sE, sF]
 refine tk 1 ?_ rfl (by kernel_rfl) (fun _ _ _ h => h) ‹_› (by rfl) ?_ ?_
 rotate_left
 · (intro w' hSw; (try dsimp only at hSw); go_simp; try with_reducible rfl)
 try simp only [Act.put, sA, sB, sC, sD, sE, sF]
 refine tk 2 ?_ rfl (by kernel_rfl) (fun _ _ _ h => h) ‹_› (by rfl) ?_ ?_
 rotate_left
 · (intro w' hSw; (try dsimp only at hSw); go_simp; try with_reducible rfl)
 try simp only [Act.put, sA, sB, sC, sD, sE, sF]
 refine tk 3 ?_ rfl (by kernel_rfl) (fun _ _ _ h => h) ‹_› (by rfl) ?_ ?_
 rotate_left
 · (intro w' hSw; (try dsimp only at hSw); go_simp; try with_reducible rfl)
 try simp only [Act.put, sA, sB, sC, sD, sE, sF]
 refine tk 4 ?_ rfl (by kernel_rfl) (fun _ _ _ h => h) ‹_› (by rfl) ?_ ?_
 rotate_left
 · (intro w' hSw; (try dsimp only at hSw); go_simp; try with_reducible rfl)
 try simp only [Act.put, sA, sB, sC, sD, sE, sF]
 refine wpAnyT_one (i := 5) rfl (by kernel_rfl) (fun K hK => ?_)
 go_simp
 have HT5 := Lib.hid (show TrBox w pb (w.heap.size + 1) (Hg.ndK 14) [] [] (w4.setCell ⟨b0 + 1, 0, none⟩ (.int .u8 14)) (.slice none 0 0) [] from by rw [← HD.out]; exact HT4.out.set rfl)
 have HP5 := Lib.hid (show PaAt (w4.setCell ⟨b0 + 1, 0, none⟩ (.int .u8 14)) pb L (k + 1) d from HP4.out.field (by have := HD.out; omega) 0 _)
 generalize World.setCell w4 _ _ = w5 at HT5 HP5 ⊢
 have hc5 := HT5.out.cells
 rw [HD.out] at hc5
 clear HT4 HP4 z0 zf c0 c1
 refine hK.out _ _ (hc5.2.1) (fun hHeld => ?_)
 clear hK K
 try simp only [Act.put, sA, sB, sC, sD, sE, sF]
 refine tk 6 ?_ rfl (by kernel_rfl) (fun _ _ _ h => h) ‹_› (by rfl) ?_ ?_
 rotate_left
 · (intro w' hSw; (try dsimp only at hSw); go_simp; try with_reducible rfl)
 try simp only [Act.put, sA, sB, sC, sD, sE, sF]
 refine tk 7 ?_ rfl (by kernel_rfl) (fun _ _ _ h => h) ‹_› (by rfl) ?_ ?_
 rotate_left
 · (intro w' hSw; (try dsimp only at hSw); go_simp; try with_reducible rfl)
 try simp only [Act.put, sA, sB, sC, sD, sE, sF]
 refine tk 8 ?_ rfl (by kernel_rfl) (fun _ _ _ h => h) ‹_› (by rfl) ?_ ?_
 rotate_left
 · (intro w' hSw; (try dsimp only at hSw); go_simp; try with_reducible rfl)
 try simp only [Act.put, sA, sB, sC, sD, sE, sF]
 refine wpAnyT_tail (by kernel_rfl) ?_
 simp only [List.drop_succ_cons, List.drop_zero]
 have z2 := cell_of_row w5 (b0 + 1) 2 _ _ (0, 0) (by have := HT5.out.kd.hh; rw [HD.out] at this; exact this)
 simp [Hg.ndK] at z2
 have zf := hc5.2.2.2
 have HT6 := Lib.hid (show TrBox w pb (w.heap.size + 1) ⟨14, [], 1, 0, 0, []⟩ [] [] (w5.setCell ⟨b0 + 1, 2, none⟩ (.int .i64 1)) (.slice none 0 0) [] from by rw [← HD.out]; exact HT5.out.set rfl)
 have HP6 := Lib.hid (show PaAt (w5.setCell ⟨b0 + 1, 2, none⟩ (.int .i64 1)) pb L (k + 1) d from HP5.out.field (by have := HD.out; omega) 2 _)
 clear hc5 HT5 HP5
 go_upto_region 27 with fail
 clear z2 zf hHeld
 generalize World.setCell w5 _ _ = w6 at HT6 HP6 ⊢
 have HT6 := Lib.hid HT6.out.drew
 have HP6 := Lib.hid HP6.out.drew
 obtain ⟨c0, c1, -, -⟩ := HT6.out.cells
 rw [HD.out] at c0 c1
 go_wp2
 go_ret
 exact ⟨GT.mk (b0 + 1) ⟨14, [], 1, 0, 0, []⟩ [] [] [], rfl, rfl, by rw [← HD.out]; exact HT6.out.kd.tree.down (by omega), HP6.out, HT6.out.gr⟩
set_option maxHeartbeats 4000000 in
set_option maxRecDepth 100000 in
theorem expr_false (pb k d : Nat) (L : List Hg.Tok) (w : World) (hP : PaAt w pb L k d) (hk : k < L.length) (hL : L.length ≤ 1000000) (h2 : ¬ (tkAt L k).kind = 2) (h1 : ¬ (tkAt L k).kind = 1) (hn : tkIs L k Hg.wTrue = false) (ht : tkIs L k Hg.wFalse = true) :
 Calls Tryz.prog 50 #[.pointer (some ⟨pb, 0, none⟩)] w (PaRes w pb L (k + 1) d (Hg.gmk 14 0 [] [])) := by
 have TA := Lib.hid (fun X (hp : PaAt X pb L k d) => take_no pb k d L Hg.wTrue X hp hk hL hn)
 have TT := Lib.hid (fun X (hp : PaAt X pb L k d) => take_yes pb k d L Hg.wFalse X hp hk hL ht)
 have hq1 : (((tkAt L k).kind : Int) == 2) = false := by simpa using (show ¬ ((tkAt L k).kind : Int) = 2 by omega)
 have hq2 : (((tkAt L k).kind : Int) == 1) = false := by simpa using (show ¬ ((tkAt L k).kind : Int) = 1 by omega)
 clear h1 h2 ht hn
 have hlt := hP.lt
 have TN := fun X (hp : PaAt X pb L k d) => now_any pb k d L X hp hk hL
 obtain ⟨g0, g1, g2, hbA, hzA⟩ := alloc3 w (.cells #[.pointer (some ⟨pb, 0, none⟩)] 38) (.cells (gtCells (Hg.ndK 0) [] [] (.slice none 0 0) (.slice none 0 0) 0) 72) (.cells #[.pointer (some ⟨w.heap.size + 1, 0, none⟩)] 41)
 have HT := Lib.hid (show TrBox w pb (w.heap.size + 1) (Hg.ndK 0) [] [] _ (.slice none 0 0) [] from ⟨below_grown50 hbA (some pb), hlt, by omega, g0, g2, KidsAt.new g1 (by omega) (by omega)⟩)
 have HP := Lib.hid (hP.keep (hbA.mono hlt))
 have TN := Lib.hid (TN _ HP.out)
 generalize tkAt L k = t at *
 clear hbA hzA g0 g1 g2 hP
 go_enter Tryz.func50, Tryz.ntmps50
 go_wp2_with fail
 refine TN.out.mono ?_
 clear TN
 generalize World.alloc (World.alloc (World.alloc w _) _) _ = W3 at HT HP ⊢
 rintro e w1 ⟨rfl, hb1⟩
 have HT1 := Lib.hid (HT.out.keep (below_grown50 hb1 (some pb)))
 have HP1 := Lib.hid (HP.out.keep (hb1.mono HP.out.lt))
 clear hb1 HT HP
 have hbt : Below w1.heap.size w1 (w1.alloc (.cells #[.int .u8 (t.kind : Int), strV t.text, .int .i64 (t.pos : Int)] 65)) := (Below.refl _ _).alloc (Nat.le_refl _) _
 have HT2 := Lib.hid (HT1.out.keep (below_grown50 hbt (some pb)))
 have HP2 := Lib.hid (HP1.out.keep (hbt.mono HP1.out.lt))
 have htk := heap_alloc_new w1 (.cells #[.int .u8 (t.kind : Int), strV t.text, .int .i64 (t.pos : Int)] 65)
 have hbl : w.heap.size + 1 + 1 < w1.heap.size := by have := HT1.out.kd.sz; omega
 clear hbt HT1 HP1
 go_upto_region 4 with fail
 generalize w1.heap.size = tb at htk hbl ⊢
 generalize World.alloc w1 _ = w2 at HT2 HP2 htk ⊢
 have k0 := cell_of_row w2 tb 0 _ _ (0, 0) htk
 simp at k0
 obtain ⟨c0, c1, -, -⟩ := HT2.out.cells
 generalize hDz : w.heap.size = b0 at c0 c1 hbl ⊢
 have HD := Lib.hid hDz
 clear hDz
 go_wp2_with fail
 refine (TA.out _ HP2.out).mono ?_
 rintro e w3 ⟨rfl, hb⟩
 have HT3 := Lib.hid (HT2.out.keep (below_grown50 hb (some pb)))
 have HP3 := Lib.hid (HP2.out.keep (hb.mono HP2.out.lt))
 clear hb TA HT2 HP2 c0 c1
 obtain ⟨c0, c1, -, -⟩ := HT3.out.cells
 rw [HD.out] at c0 c1
 go_wp2_with fail
 refine (TT.out _ HP3.out).mono ?_
 rintro e w4 ⟨rfl, hp, hg⟩
 have HT4 := Lib.hid (HT3.out.keep hg)
 have HP4 := Lib.hid hp
 clear hp hg TT HT3 HP3 c0 c1
 obtain ⟨c0, c1, -, -⟩ := HT4.out.cells
 rw [HD.out] at c0 c1
 go_upto_region 15 with fail
 have z0 := cell_of_row w4 (b0 + 1) 0 _ _ (0, 0) (by have := HT4.out.kd.hh; rw [HD.out] at this; exact this)
 simp at z0
 have zf : ∀ i, w4.frozen? ⟨b0 + 1, i, none⟩ = false := by have := HT4.out.cells.2.2.2; rw [HD.out] at this; exact this
 have HT5 := Lib.hid (show TrBox w pb (w.heap.size + 1) (Hg.ndK 14) [] [] (w4.setCell ⟨b0 + 1, 0, none⟩ (.int .u8 14)) (.slice none 0 0) [] from by rw [← HD.out]; exact HT4.out.set rfl)
 have HP5 := Lib.hid (show PaAt (w4.setCell ⟨b0 + 1, 0, none⟩ (.int .u8 14)) pb L (k + 1) d from HP4.out.field (by have := HD.out; omega) 0 _)
 clear HT4 HP4
 go_upto_region 27 with fail
 clear z0 zf c0 c1
 generalize World.setCell w4 _ _ = w5 at HT5 HP5 ⊢
 obtain ⟨c0, c1, -, -⟩ := HT5.out.cells
 rw [HD.out] at c0 c1
 go_wp2
 go_ret
 exact ⟨GT.mk (b0 + 1) (Hg.ndK 14) [] [] [], rfl, rfl, by rw [← HD.out]; exact HT5.out.kd.tree.down (by omega), HP5.out, HT5.out.gr⟩
set_option maxHeartbeats 4000000 in
set_option maxRecDepth 100000 in
theorem expr_bin (pb k k1 k2 d sn : Nat) (L : List Hg.Tok) (a b : GT) (item : Nat → Option (GT × Nat)) (w : World) (hP : PaAt w pb L k d) (hk : k < L.length) (hL : L.length ≤ 1000000) (h2 : ¬ (tkAt L k).kind = 2) (h1 : ¬ (tkAt L k).kind = 1)
 (n1 : tkIs L k Hg.wTrue = false) (n2 : tkIs L k Hg.wFalse = false) (n3 : tkIs L k Hg.wRead = false) (n4 : tkIs L k [33] = false) (n5 : tkIs L k [45] = false) (ht : tkIs L k [40] = true) (hd : d < 60) (hi : ItemC L pb (d + 1) item)
 (i1 : item (k + 1) = some (a, k1)) (hk1 : k1 < L.length) (hsn : Hg.signNo (tkAt L k1).text = sn) (hs0 : ¬ sn = 0) (i2 : item (k1 + 1) = some (b, k2)) (i3 : tkB L k2 [41] = true) :
 Calls Tryz.prog 50 #[.pointer (some ⟨pb, 0, none⟩)] w (PaRes w pb L (k2 + 1) d (Hg.gmk 18 sn [] [a, b])) := by
 have TA := Lib.hid (fun X (hp : PaAt X pb L k d) => take_no pb k d L Hg.wTrue X hp hk hL n1)
 have TB := Lib.hid (fun X (hp : PaAt X pb L k d) => take_no pb k d L Hg.wFalse X hp hk hL n2)
 have TC := Lib.hid (fun X (hp : PaAt X pb L k d) => take_no pb k d L Hg.wRead X hp hk hL n3)
 have TD := Lib.hid (fun X (hp : PaAt X pb L k d) => take_no pb k d L [33] X hp hk hL n4)
 have TE := Lib.hid (fun X (hp : PaAt X pb L k d) => take_no pb k d L [45] X hp hk hL n5)
 have TT := Lib.hid (fun X (hp : PaAt X pb L k d) => take_yes pb k d L [40] X hp hk hL ht)
 have TW := Lib.hid (fun W (hp : PaAt W pb L (k + 1) d) (ht : TrBox w pb (w.heap.size + 1) (Hg.ndK 18) [] [] W (.slice none 0 0) []) =>
  within_any pb (k + 1) (k2 + 1) d 88 #[.pointer (some ⟨w.heap.size, 0, none⟩), .pointer (some ⟨w.heap.size + 1 + 1, 0, none⟩)] L (fun W => ∃ v G, GT.eraL G = [a, b] ∧ TrBox w pb (w.heap.size + 1) (binNode sn) [] [] W v G) W hp hd
   (fun X hp' hg' => expr3_any pb (w.heap.size + 1) (d + 1) (k + 1) k1 k2 sn L hL a b w X item (ht.keep hg') hp' hi i1 hk1 hsn hs0 i2 i3)
   (fun X u ⟨v, G, e, t⟩ => ⟨v, G, e, t.keep (grown_set (grown_refl _ _) 2 u)⟩) (fun X => by kernel_rfl))
 have hq1 : (((tkAt L k).kind : Int) == 2) = false := by simpa using (show ¬ ((tkAt L k).kind : Int) = 2 by omega)
 have hq2 : (((tkAt L k).kind : Int) == 1) = false := by simpa using (show ¬ ((tkAt L k).kind : Int) = 1 by omega)
 clear h1 h2 n1 n2 n3 n4 n5 ht hd hi i1 hk1 hsn hs0 i2 i3
 have hlt := hP.lt
 have TN := fun X (hp : PaAt X pb L k d) => now_any pb k d L X hp hk hL
 obtain ⟨g0, g1, g2, hbA, hzA⟩ := alloc3 w (.cells #[.pointer (some ⟨pb, 0, none⟩)] 38) (.cells (gtCells (Hg.ndK 0) [] [] (.slice none 0 0) (.slice none 0 0) 0) 72) (.cells #[.pointer (some ⟨w.heap.size + 1, 0, none⟩)] 41)
 have HT := Lib.hid (show TrBox w pb (w.heap.size + 1) (Hg.ndK 0) [] [] _ (.slice none 0 0) [] from ⟨below_grown50 hbA (some pb), hlt, by omega, g0, g2, KidsAt.new g1 (by omega) (by omega)⟩)
 have HP := Lib.hid (hP.keep (hbA.mono hlt))
 have TN := Lib.hid (TN _ HP.out)
 generalize tkAt L k = t at *
 clear hbA hzA g0 g1 g2 hP
 go_enter Tryz.func50, Tryz.ntmps50
 go_wp2_with fail
 refine TN.out.mono ?_
 clear TN
 generalize World.alloc (World.alloc (World.alloc w _) _) _ = W3 at HT HP ⊢
 rintro e w1 ⟨rfl, hb1⟩
 have HT1 := Lib.hid (HT.out.keep (below_grown50 hb1 (some pb)))
 have HP1 := Lib.hid (HP.out.keep (hb1.mono HP.out.lt))
 clear hb1 HT HP
 have hbt : Below w1.heap.size w1 (w1.alloc (.cells #[.int .u8 (t.kind : Int), strV t.text, .int .i64 (t.pos : Int)] 65)) := (Below.refl _ _).alloc (Nat.le_refl _) _
 have HT2 := Lib.hid (HT1.out.keep (below_grown50 hbt (some pb)))
 have HP2 := Lib.hid (HP1.out.keep (hbt.mono HP1.out.lt))
 have htk := heap_alloc_new w1 (.cells #[.int .u8 (t.kind : Int), strV t.text, .int .i64 (t.pos : Int)] 65)
 have hbl : w.heap.size + 1 + 1 < w1.heap.size := by have := HT1.out.kd.sz; omega
 clear hbt HT1 HP1
 go_upto_region 4 with fail
 generalize w1.heap.size = tb at htk hbl ⊢
 generalize World.alloc w1 _ = w2 at HT2 HP2 htk ⊢
 have k0 := cell_of_row w2 tb 0 _ _ (0, 0) htk
 simp at k0
 obtain ⟨c0, c1, -, -⟩ := HT2.out.cells
 generalize hDz : w.heap.size = b0 at c0 c1 hbl ⊢
 have HD := Lib.hid hDz
 clear hDz
 go_wp2_with fail
 refine (TA.out _ HP2.out).mono ?_
 rintro e w3 ⟨rfl, hb⟩
 have HT3 := Lib.hid (HT2.out.keep (below_grown50 hb (some pb)))
 have HP3 := Lib.hid (HP2.out.keep (hb.mono HP2.out.lt))
 clear hb TA HT2 HP2 c0 c1
 obtain ⟨c0, c1, -, -⟩ := HT3.out.cells
 rw [HD.out] at c0 c1
 go_wp2_with fail
 refine (TB.out _ HP3.out).mono ?_
 rintro e w4 ⟨rfl, hb⟩
 have HT4 := Lib.hid (HT3.out.keep (below_grown50 hb (some pb)))
 have HP4 := Lib.hid (HP3.out.keep (hb.mono HP3.out.lt))
 clear hb TB HT3 HP3 c0 c1
 obtain ⟨c0, c1, -, -⟩ := HT4.out.cells
 rw [HD.out] at c0 c1
 go_wp2_with fail
 refine (TC.out _ HP4.out).mono ?_
 rintro e w5 ⟨rfl, hb⟩
 have HT5 := Lib.hid (HT4.out.keep (below_grown50 hb (some pb)))
 have HP5 := Lib.hid (HP4.out.keep (hb.mono HP4.out.lt))
 clear hb TC HT4 HP4 c0 c1
 obtain ⟨c0, c1, -, -⟩ := HT5.out.cells
 rw [HD.out] at c0 c1
 go_wp2_with fail
 refine (TD.out _ HP5.out).mono ?_
 rintro e w6 ⟨rfl, hb⟩
 have HT6 := Lib.hid (HT5.out.keep (below_grown50 hb (some pb)))
 have HP6 := Lib.hid (HP5.out.keep (hb.mono HP5.out.lt))
 clear hb TD HT5 HP5 c0 c1
 obtain ⟨c0, c1, -, -⟩ := HT6.out.cells
 rw [HD.out] at c0 c1
 go_wp2_with fail
 refine (TE.out _ HP6.out).mono ?_
 rintro e w7 ⟨rfl, hb⟩
 have HT7 := Lib.hid (HT6.out.keep (below_grown50 hb (some pb)))
 have HP7 := Lib.hid (HP6.out.keep (hb.mono HP6.out.lt))
 clear hb TE HT6 HP6 c0 c1
 obtain ⟨c0, c1, -, -⟩ := HT7.out.cells
 rw [HD.out] at c0 c1
 go_wp2_with fail
 refine (TT.out _ HP7.out).mono ?_
 rintro e w8 ⟨rfl, hp, hg⟩
 have HT8 := Lib.hid (HT7.out.keep hg)
 have HP8 := Lib.hid hp
 clear hp hg TT HT7 HP7 c0 c1
 obtain ⟨c0, c1, -, -⟩ := HT8.out.cells
 rw [HD.out] at c0 c1
 go_upto_region 25 with fail
 have z0 := cell_of_row w8 (b0 + 1) 0 _ _ (0, 0) (by have := HT8.out.kd.hh; rw [HD.out] at this; exact this)
 simp at z0
 have zf : ∀ i, w8.frozen? ⟨b0 + 1, i, none⟩ = false := by have := HT8.out.cells.2.2.2; rw [HD.out] at this; exact this
 have HT9 := Lib.hid (show TrBox w pb (w.heap.size + 1) (Hg.ndK 18) [] [] (w8.setCell ⟨b0 + 1, 0, none⟩ (.int .u8 18)) (.slice none 0 0) [] from by rw [← HD.out]; exact HT8.out.set rfl)
 have HP9 := Lib.hid (show PaAt (w8.setCell ⟨b0 + 1, 0, none⟩ (.int .u8 18)) pb L (k + 1) d from HP8.out.field (by have := HD.out; omega) 0 _)
 clear HT8 HP8
 go_upto_region 26 with fail
 clear z0 zf c0 c1
 generalize World.setCell w8 _ _ = w9 at HT9 HP9 ⊢
 obtain ⟨c0, c1, -, -⟩ := HT9.out.cells
 rw [HD.out] at c0 c1
 have TW9 := Lib.hid (TW.out _ HP9.out HT9.out)
 rw [HD.out] at TW9
 clear TW
 go_wp2_with fail
 refine TW9.out.mono ?_
 rintro e wa ⟨rfl, hpa, v, G, he, hta⟩
 have HTA := Lib.hid hta
 have HPA := Lib.hid hpa
 have HEA := Lib.hid he
 clear hpa hta he TW9 c0 c1
 obtain ⟨c0, c1, -, -⟩ := HTA.out.cells
 rw [HD.out] at c0
 go_wp2
 go_ret
 exact ⟨GT.mk (b0 + 1) (binNode sn) [] [] G, rfl, by rw [era_mk, HEA.out]; rfl, HTA.out.kd.tree.down (by rw [HD.out]; omega), HPA.out, HTA.out.gr⟩
end Go.Proofs.YtoelmnamlnbdhaaGreatDoor
namespace Go.Proofs.YtoelmnamlnbdhaaGreatDoor
open Go.RowKit
open Hg (GT tkAt tkIs tkAt_get tkB tkB_lt tkB_is)
theorem expr_any (pb : Nat) (L : List Hg.Tok) (hL : L.length ≤ 1000000) : ∀ f d W k a k1, PaAt W pb L k d → Hg.gE L f d k = some (a, k1) → Calls Tryz.prog 50 #[.pointer (some ⟨pb, 0, none⟩)] W (PaRes W pb L k1 d a) := by
 intro f
 induction f with
 | zero => intro d W k a k1 _ h; cases h
 | succ f ih =>
   intro d W k a k1 hP h
   have hi : ItemC L pb (d + 1) (Hg.gE L f (d + 1)) := gE_item L pb f (d + 1) (fun W k a k1 => ih (d + 1) W k a k1)
   obtain ⟨hk, h⟩ := Hg.gE_inv h
   rcases h with ⟨h2, n, hn, rfl, rfl⟩ | ⟨h2, h1, hk1, hd, h⟩ | ⟨h2, h1, hk1, hd, rfl, rfl⟩ | ⟨h2, h1, ht, rfl, rfl⟩ | ⟨h2, h1, n1, ht, rfl, rfl⟩ | ⟨h2, h1, n1, n2, n3, n4, n5, n6, hd, x, j, b, q, i1, hj, hs, i2, i3, rfl, rfl⟩
   ·
    obtain ⟨hn1, hn2⟩ := Hg.digit_some hn
    exact expr_num pb k d n L W hP hk hL h2 hn1 hn2
   ·
    exact expr_call pb k k1 d L a W hP hk hL h1 hk1 hd (fun X hp => call_any pb d (k + 1) k1 L hL _ a X (Hg.gE L f (d + 1)) hp hi h)
   ·
    exact expr_var pb k d L W hP hk hL h1 hk1 hd
   ·
    exact expr_true pb k d L W hP hk hL h2 h1 ht
   ·
    exact expr_false pb k d L W hP hk hL h2 h1 n1 ht
   ·
    exact expr_bin pb k j q d _ L x b (Hg.gE L f (d + 1)) W hP hk hL h2 h1 n1 n2 n3 n4 n5 n6 hd hi i1 hj rfl hs i2 i3
theorem expr_item (pb : Nat) (L : List Hg.Tok) (hL : L.length ≤ 1000000) (f d : Nat) : ItemC L pb d (Hg.gE L f d) := gE_item L pb f d (fun W k a k1 => expr_any pb L hL f d W k a k1)
end Go.Proofs.YtoelmnamlnbdhaaGreatDoor
namespace Hg
theorem gUntil_inv {L : List Tok} {stop : Str} {item : Nat → Option (GT × Nat)} {n k k2 : Nat} {l : List GT} (h : gUntil L stop item (n + 1) k = some (l, k2)) :
 (tkB L k stop = true ∧ l = [] ∧ k2 = k) ∨ (tkB L k stop = false ∧ k < L.length ∧ ∃ a k1 m, item k = some (a, k1) ∧ gUntil L stop item n k1 = some (m, k2) ∧ l = a :: m) := by
 unfold gUntil at h
 by_cases hb : tkB L k stop = true
 ·
  rw [if_pos hb] at h
  injection h with h
  injection h with h1 h2
  exact .inl ⟨hb, h1.symm, h2.symm⟩
 rw [if_neg hb] at h
 by_cases hk : L.length ≤ k
 ·
  rw [if_pos hk] at h; cases h
 rw [if_neg hk] at h
 refine .inr ⟨by simpa using hb, by omega, ?_⟩
 cases hi : item k with
 | none => rw [hi] at h; cases h
 | some x =>
   obtain ⟨a, k1⟩ := x
   rw [hi] at h
   dsimp only at h
   cases hu : gUntil L stop item n k1 with
   | none => rw [hu] at h; cases h
   | some y =>
     obtain ⟨m, k3⟩ := y
     rw [hu] at h
     injection h with h
     injection h with h1 h2
     exact ⟨a, k1, m, rfl, by rw [hu, h2], h1.symm⟩
end Hg
namespace Go.Proofs.YtoelmnamlnbdhaaGreatDoor
open Go.RowKit
open Hg (GT tkAt tkIs tkAt_get tkB tkB_lt tkB_is)
theorem tkB_not {L : List Hg.Tok} {k : Nat} {s : List UInt8} (h : tkB L k s = false) (hk : k < L.length) : tkIs L k s = false := by simpa [tkB, Hg.tkB, hk] using h
def ItemS (L : List Hg.Tok) (pb d : Nat) (item : Nat → Option (GT × Nat)) : Prop :=
 (∀ W k a k1, PaAt W pb L k d → item k = some (a, k1) → Calls Tryz.prog 49 #[.pointer (some ⟨pb, 0, none⟩)] W (PaRes W pb L k1 d a)) ∧ ∀ k a k1, item k = some (a, k1) → k < k1 ∧ k < L.length
set_option maxHeartbeats 4000000 in
set_option maxRecDepth 100000 in
theorem block1_any (pb fb d k k2 : Nat) (L : List Hg.Tok) (hL : L.length ≤ 1000000) (l : List GT) (w W : World) (item : Nat → Option (GT × Nat)) (hT : TrBox w pb fb (Hg.ndK 5) [] [] W (.slice none 0 0) []) (hP : PaAt W pb L k d) (hi : ItemS L pb d item)
 (h1 : tkB L k [123] = true) (h2 : Hg.gUntil L [125] item L.length (k + 1) = some (l, k2)) :
 Calls Tryz.prog 120 #[.pointer (some ⟨w.heap.size, 0, none⟩), .pointer (some ⟨fb + 1, 0, none⟩)] W fun e W' => e = .returned (.tuple #[]) ∧ PaAt W' pb L (k2 + 1) d ∧ ∃ v G, GT.eraL G = l ∧ TrBox w pb fb (Hg.ndK 5) [] [] W' v G := by
 have hgf := hT.gf
 have hlw := hT.lt
 have hk0 := tkB_lt h1
 have T1 := Lib.hid (want1 pb d L hL k [123] W W.heap.size rfl hP h1)
 have HI := Lib.hid hi
 have HU := Lib.hid h2
 have HT := Lib.hid hT
 obtain ⟨j0, hj, hj0, hj1, hj2⟩ := info_parts treeInfo
 obtain ⟨c0, c1, -, -⟩ := hT.cells
 generalize hDz : w.heap.size = b0 at c0 hgf hlw ⊢
 have HD := Lib.hid hDz
 clear hT hP hi h1 h2 hDz
 go_enter Tryz.func120, Tryz.ntmps120
 go_wp2_with fail
 refine T1.out.mono ?_
 rintro e w1 ⟨rfl, hp1, hg1⟩
 have HT1 := Lib.hid (HT.out.keep hg1)
 have HP1 := Lib.hid hp1
 clear hp1 hg1 T1 HT c0 c1
 go_wp2
 go_loopw [] (fun wr => ∃ m k v G l1, G.length ≤ k ∧ PaAt wr pb L k d ∧ TrBox w pb fb (Hg.ndK 5) [] [] wr v G ∧ Hg.gUntil L [125] item m k = some (l1, k2) ∧ GT.eraL G ++ l1 = l) (fun wr => L.length - paK wr pb)
 case atStart => exact ⟨_, k + 1, _, [], l, Nat.zero_le _, HP1.out, HT1.out, HU.out, rfl⟩
 case round =>
  obtain ⟨m, k, v, G, l1, hGk, hp, ht, hu, hll⟩ := hrel
  have HLL := Lib.hid hll
  clear HU HP1 HT1 hll hk0
  cases m with
  | zero => cases hu
  | succ m =>
    have hPR := hp.read
    obtain ⟨pa, pc, -, -, -, p3, -, -⟩ := hPR
    have HK := Lib.hid hp.paK
    obtain ⟨c0, c1, -, -⟩ := ht.cells
    rw [HD.out] at c0
    have HTR := Lib.hid ht
    have HPR := Lib.hid hp
    rcases Hg.gUntil_inv hu with ⟨hb, rfl, rfl⟩ | ⟨hb, hk, a, k1, l2, hit, hu2, rfl⟩
    ·
     have TY := Lib.hid (take_yes pb k2 d L [125] wr hp (tkB_lt hb) hL (tkB_is hb))
     clear hp ht hu hb
     go_wp2_with fail
     refine TY.out.mono ?_
     rintro e w2 ⟨rfl, hp2, hg2⟩
     have HE := Lib.hid (And.intro hp2 (HTR.out.keep hg2))
     clear hp2 hg2 TY c0 c1 p3
     go_wp2
     go_end0
     exact ⟨rfl, HE.out.1, v, G, by have := HLL.out; simpa using this, HE.out.2⟩
    ·
     have TN := Lib.hid (take_no pb k d L [125] wr hp hk hL (tkB_not hb hk))
     have TE := Lib.hid (fun X (hx : PaAt X pb L k d) => HI.out.1 X k a k1 hx hit)
     have hA1 := (HI.out.2 k a k1 hit).1
     have HU2 := Lib.hid hu2
     have HG := Lib.hid (show G.length ≤ 1000000 by omega)
     clear hp ht hu hb hit hu2
     go_wp2_with fail
     refine TN.out.mono ?_
     rintro e w2 ⟨rfl, hb2⟩
     have HT := Lib.hid (HTR.out.keep (below_grown50 hb2 (some pb))).drew
     have HP := Lib.hid (HPR.out.keep (hb2.mono HPR.out.lt)).drew
     clear hb2 TN HTR HPR c0 c1 p3
     obtain ⟨c0, c1, c2, f0⟩ := HT.out.cells
     rw [HD.out] at c0
     have hHeld : (fun w' => w'.cell? ⟨fb + 1, 0, none⟩ = some (.pointer (some ⟨fb, 0, none⟩)) ∧ w'.cell? ⟨b0, 0, none⟩ = some (.pointer (some ⟨pb, 0, none⟩)) ∧ w'.cell? ⟨fb, 8, none⟩ = some v) w2.drew := ⟨c1, c0, c2⟩
     clear c0 c1 c2
     go_upto_region 2 with fail
     refine wp_region_two (fun w' => w'.cell? ⟨fb + 1, 0, none⟩ = some (.pointer (some ⟨fb, 0, none⟩)) ∧ w'.cell? ⟨b0, 0, none⟩ = some (.pointer (some ⟨pb, 0, none⟩)) ∧ w'.cell? ⟨fb, 8, none⟩ = some v) 9 (by kernel_rfl) ?_
     refine tk 0 ?_ rfl (by kernel_rfl) (fun _ _ _ h => h) ‹_› (by rfl) ?_ ?_
     rotate_left
     · (intro w' hSw; (try dsimp only at hSw); go_simp; try with_reducible rfl)
     try simp only [Act.put, sA, sB, sC, sD, sE, sF]
     refine tk 1 ?_ rfl (by kernel_rfl) (fun _ _ _ h => h) ‹_› (by rfl) ?_ ?_
     rotate_left
     · (intro w' hSw; (try dsimp only at hSw); go_simp; try with_reducible rfl)
     try simp only [Act.put, sA, sB, sC, sD, sE, sF]
     refine tk 2 ?_ rfl (by kernel_rfl) (fun _ _ _ h => h) ‹_› (by rfl) ?_ ?_
     rotate_left
     · (intro w' hSw; (try dsimp only at hSw); go_simp; try with_reducible rfl)
     try simp only [Act.put, sA, sB, sC, sD, sE, sF]
     refine tk 3 ?_ rfl (by kernel_rfl) (fun _ _ _ h => h) ‹_› (by rfl) ?_ ?_
     rotate_left
     · (intro w' hSw; (try dsimp only at hSw); go_simp; try with_reducible rfl)
     try simp only [Act.put, sA, sB, sC, sD, sE, sF]
     refine tk 4 ?_ rfl (by kernel_rfl) (fun _ _ _ h => h) ‹_› (by rfl) ?_ ?_
     rotate_left
     · (intro w' hSw; (try dsimp only at hSw); go_simp; try with_reducible rfl)
     try simp only [Act.put, sA, sB, sC, sD, sE, sF]
     refine tk 5 ?_ rfl (by kernel_rfl) (fun _ _ _ h => h) ‹_› (by rfl) ?_ ?_
     rotate_left
     · (intro w' hSw; (try dsimp only at hSw); go_simp; try with_reducible rfl)
     try simp only [Act.put, sA, sB, sC, sD, sE, sF]
     refine wpAnyT_one (i := 6) rfl (by kernel_rfl) (fun K hK => ?_)
     go_simp
     refine (TE.out w2.drew HP.out).mono ?_
     rintro e w5 ⟨t, rfl, hera, hF5, hp5, hg5⟩
     have HT5 := Lib.hid (HT.out.keep hg5)
     have HP5 := Lib.hid hp5
     have HG5 := Lib.hid hg5
     have HF5 := Lib.hid hF5
     have HER := Lib.hid hera
     have hc5 := HT5.out.cells
     rw [HD.out] at hc5
     clear hp5 hg5 hF5 hera TE HP
     refine hK.out _ _ (⟨hc5.2.1, hc5.1, hc5.2.2.1⟩) (fun hHeld => ?_)
     clear hK K
     try simp only [Act.put, sA, sB, sC, sD, sE, sF]
     refine wpAnyT_one (i := 7) rfl (by kernel_rfl) (fun K hK => ?_)
     go_simp
     generalize hWa : World.alloc _ _ = Wa
     obtain ⟨hBa, hha, hza⟩ := new_alloc hWa
     have HTa := Lib.hid (HT5.out.keep (below_grown50 hBa (some pb)))
     have hca := HTa.out.cells
     rw [HD.out] at hca
     have HBa := Lib.hid hBa
     clear hza hWa hBa hc5
     refine hK.out _ _ (⟨hca.2.1, hca.1, hca.2.2.1⟩) (fun hHeld => ?_)
     clear hK K
     try simp only [Act.put, sA, sB, sC, sD, sE, sF]
     refine wpAnyT_one (i := 8) rfl (by kernel_rfl) (fun K hK => ?_)
     have hsz := HTa.out.kd.sz
     refine step_append_own rfl (.tmp 19) (.tmp 22) _ rfl (fb + 2) 41 j0 _ 1 8 Tryz.underlying48 hj hj0 hj1 hj2 rfl (by decide) v G.length (G.map ptrV) rfl HTa.out.kd.own ⟨w5.heap.size, 0, none⟩ 1 1 [ptrV t] rfl rfl ?_ (by intro u hu; simp only [List.mem_singleton] at hu; subst hu; rfl) ?_ ?_ ?_ ?_
     ·
      exact cells_at hha
     ·
      have := HG.out; unfold maxLen; omega
     ·
      have := HG.out; omega
     ·
      exact hsz
     intro v3 W3 own3 g3 at3
     obtain ⟨y3, z3, rfl⟩ := ownsRow_succ own3
     have g3' : Wa.grownBy W3 v.ownBlock := ⟨g3.os, g3.tape, g3.output, g3.size, g3.block⟩
     have HK6 := Lib.hid (HT.out.grow (W1 := w5) (Wd := Wa) HG5.out HF5.out HBa.out own3 g3' at3)
     have HP6 := Lib.hid (HTa.out.pa (HP5.out.keep (HBa.out.mono HP5.out.lt)) g3' (.slice (some ⟨y3, 0, none⟩) (G.length + 1) z3))
     have hX : ∀ q, v.ownBlock = some q → fb + 2 ≤ q := fun q e => (HTa.out.kd.own.lt q e).1
     have hk3 : ∀ i, i < fb + 2 → W3.heap[i]? = Wa.heap[i]? := fun i hi => g3.block i (by omega) (fun e => by have := hX i e.symm; omega)
     have y0 := cell_of_row W3 (fb + 1) 0 _ _ (0, 0) ((hk3 _ (by omega)).trans HTa.out.fp)
     have y1 := cell_of_row W3 b0 0 _ _ (0, 0) ((hk3 b0 (by omega)).trans (by have := HTa.out.box; rw [HD.out] at this; exact this))
     have y2 := cell_of_row W3 fb 8 _ _ (0, 0) ((hk3 _ (by omega)).trans HTa.out.kd.hh)
     have HF3 := Lib.hid (show ∀ i, W3.frozen? ⟨fb, i, none⟩ = false from fun i => by simp [World.frozen?, (hk3 _ (by omega)).trans HTa.out.kd.hh])
     clear own3 g3 at3 g3' hX hk3 hca hsz hha
     refine hK.out _ _ (⟨y0, y1, y2⟩) (fun hHeld => ?_)
     clear hK K
     try simp only [Act.put, sA, sB, sC, sD, sE, sF]
     refine wpAnyT_tail (by kernel_rfl) ?_
     simp only [List.drop_succ_cons, List.drop_zero]
     obtain ⟨y0, y1, y2⟩ := hHeld
     have f3 := HF3.out
     clear f0
     go_wp2
     go_roundw
     case rel => exact ⟨m, k1, _, G ++ [t], l2, by simp; omega, HP6.out, HK6.out, HU2.out, by rw [eraL_append]; show GT.eraL G ++ [GT.era t] ++ l2 = l; rw [HER.out, ← HLL.out, List.append_assoc]; rfl⟩
     case measure => have := HP6.out.paK; rw [this, HK.out]; omega
end Go.Proofs.YtoelmnamlnbdhaaGreatDoor
namespace Go.Proofs.YtoelmnamlnbdhaaGreatDoor
open Go.RowKit
open Hg (GT tkAt tkIs tkAt_get tkB tkB_lt tkB_is)
structure TrAt (w : World) (pb b : Nat) (nd : Hg.Node) (md tt : List UInt8) (W : World) (v : Value) (G : List GT) : Prop where
 gr : w.grownBy W (some pb)
 lt : pb < b
 eq : w.heap.size = b
 kd : KidsAt W b (b + 1) nd md tt v G
section
variable {w W W' : World} {pb b : Nat} {nd : Hg.Node} {md tt : List UInt8} {v : Value} {G : List GT}
theorem TrAt.new (hlt : pb < w.heap.size) : TrAt w pb w.heap.size nd md tt (w.alloc (.cells (gtCells nd md tt (.slice none 0 0) (.slice none 0 0) 0) 72)) (.slice none 0 0) [] :=
 ⟨World.grownBy_alloc w _ _, hlt, rfl, KidsAt.new (heap_alloc_new w _) (by omega) (by simp)⟩
theorem TrAt.keep (h : TrAt w pb b nd md tt W v G) (hg : W.grownBy W' (some pb)) : TrAt w pb b nd md tt W' v G := ⟨grown_trans h.gr hg, h.lt, h.eq, h.kd.keep hg h.lt⟩
theorem TrAt.drew (h : TrAt w pb b nd md tt W v G) : TrAt w pb b nd md tt W.drew v G := h.keep (below_grown50 ((Below.refl _ _).drew) (some pb))
theorem TrAt.cells (h : TrAt w pb b nd md tt W v G) : W.cell? ⟨b, 8, none⟩ = some v ∧ ∀ i, W.frozen? ⟨b, i, none⟩ = false := h.kd.cells
theorem TrAt.set (h : TrAt w pb b nd md tt W v G) {i : Nat} {u : Value} {nd' : Hg.Node} {md' tt' : List UInt8} (hc : (gtCells nd md tt (.slice none 0 0) v 0).setIfInBounds i u = gtCells nd' md' tt' (.slice none 0 0) v 0) : TrAt w pb b nd' md' tt' (W.setCell ⟨b, i, none⟩ u) v G :=
 ⟨grown_set_new h.gr (p := ⟨b, i, none⟩) (by show w.heap.size ≤ b; rw [h.eq]; exact Nat.le_refl _) _, h.lt, h.eq, h.kd.set hc⟩
theorem TrAt.lit {l : List GT} {n : Nat} {cs : Array Value} {W4 : World} (h : TrAt w pb b nd md tt W (.slice none 0 0) []) (F : ForestX (fun _ => False) (b + 1) W l) (ha : W.alloc (.cells cs 41) = W4) (hcs : cs.toList = l.map ptrV) (hn : l.length = n) (hm : n ≤ maxLen) :
 TrAt w pb b nd md tt (W4.setCell ⟨b, 8, none⟩ (.slice (some ⟨W.heap.size, 0, none⟩) n n)) (.slice (some ⟨W.heap.size, 0, none⟩) n n) l := by
 refine ⟨?_, h.lt, h.eq, h.kd.lit F ha hcs hn hm⟩
 subst ha
 exact grown_set_new (grown_trans h.gr (World.grownBy_alloc W _ _)) (p := ⟨b, 8, none⟩) (by show w.heap.size ≤ b; rw [h.eq]; exact Nat.le_refl _) _
theorem TrAt.litp {l : List GT} {n B : Nat} {cs : Array Value} (h : TrAt w pb b nd md tt W (.slice none 0 0) []) (F : ForestX (fun _ => False) (b + 1) W l) (hB : W.heap.size = B) (hcs : cs.toList = l.map ptrV) (hn : l.length = n) (hm : n ≤ maxLen) :
 TrAt w pb b nd md tt ((W.setCell ⟨b, 8, none⟩ (.slice (some ⟨B, 0, none⟩) n n)).alloc (.cells cs 41)) (.slice (some ⟨B, 0, none⟩) n n) l := by
 subst hB
 have := h.lit F rfl hcs hn hm
 rw [World.setCell_alloc_past _ _ _ _ h.kd.lt] at this
 exact this
theorem PaAt.fresh {L : List Hg.Tok} {k d : Nat} (h : PaAt W pb L k d) (o : Obj) : PaAt (W.alloc o) pb L k d := h.keep ((Below.refl _ _).alloc h.lt o)
theorem TrAt.grow {W1 Wd W3 : World} {v' : Value} {t : GT} (h : TrAt w pb b nd md tt W v G) (hg : W.grownBy W1 (some pb)) (ht : ForestIn W.heap.size W1 [t]) (hb : Below W1.heap.size W1 Wd)
 (own3 : W3.ownsRow (b + 1) 41 1 v' (G.length + 1) (G.map ptrV ++ [ptrV t])) (g3 : Wd.grownBy W3 v.ownBlock) (at3 : v'.ownBlock = v.ownBlock ∨ v'.ownBlock = some Wd.heap.size) :
 TrAt w pb b nd md tt (W3.setCell ⟨b, 8, none⟩ v') v' (G ++ [t]) := by
 have h1 := h.lt
 have h2 := h.eq
 have h3 := (h.keep hg).keep (below_grown50 hb (some pb))
 have hX : ∀ q, v.ownBlock = some q → b + 1 ≤ q ∧ q < Wd.heap.size := h3.kd.own.lt
 exact ⟨grown_set_new (grown_step h3.gr g3 (fun q e => by have := hX q e; omega)) (p := ⟨b, 8, none⟩) (by show w.heap.size ≤ b; omega) _, h1, h2, h.kd.grow hg h1 ht hb own3 g3 at3⟩
theorem TrAt.pa {Wd W3 : World} {L : List Hg.Tok} {k d : Nat} (h : TrAt w pb b nd md tt Wd v G) (hp : PaAt Wd pb L k d) (g3 : Wd.grownBy W3 v.ownBlock) (u : Value) : PaAt (W3.setCell ⟨b, 8, none⟩ u) pb L k d := by
 have h1 := h.lt
 have hX : ∀ q, v.ownBlock = some q → b + 1 ≤ q ∧ q < Wd.heap.size := h.kd.own.lt
 exact (hp.keep (below_of_own (B := pb + 1) g3 (fun q e => by have := hX q e; omega) (by have := hp.lt; omega))).field h1 8 u
theorem TrAt.res {L : List Hg.Tok} {k d : Nat} {t0 : GT} (h : TrAt w pb b nd md tt W v G) (hp : PaAt W pb L k d) (he : GT.mk 0 nd md tt (GT.eraL G) = t0) : PaRes w pb L k d t0 (.returned (.pointer (some ⟨b, 0, none⟩))) W :=
 ⟨GT.mk b nd md tt G, rfl, by rw [era_mk, he], h.kd.tree.down (by rw [h.eq]; exact Nat.le_refl _), hp, h.gr⟩
theorem TrAt.row (h : TrAt w pb b nd md tt W v G) : b < W.heap.size ∧ W.cell? ⟨b, 0, none⟩ = some (.int .u8 (nd.kind : Int)) ∧ W.cell? ⟨b, 1, none⟩ = some (strV nd.name) ∧ W.cell? ⟨b, 3, none⟩ = some (.int .u8 (nd.type : Int)) ∧ W.cell? ⟨b, 7, none⟩ = some (strV tt) :=
 ⟨h.kd.lt, cell_of_row W b 0 _ _ (0, 0) h.kd.hh, cell_of_row W b 1 _ _ (0, 0) h.kd.hh, cell_of_row W b 3 _ _ (0, 0) h.kd.hh, cell_of_row W b 7 _ _ (0, 0) h.kd.hh⟩
end
set_option maxHeartbeats 4000000 in
set_option maxRecDepth 100000 in
theorem block_any (pb d k k' : Nat) (L : List Hg.Tok) (hL : L.length ≤ 1000000) (t0 : GT) (w : World) (item : Nat → Option (GT × Nat)) (hP : PaAt w pb L k d) (hi : ItemS L pb (d + 1) item) (h : Hg.gB L item d k = some (t0, k')) :
 Calls Tryz.prog 82 #[.pointer (some ⟨pb, 0, none⟩)] w (PaRes w pb L k' d t0) := by
 have hlt := hP.lt
 unfold Hg.gB at h
 by_cases hc : (decide (d < 60) && tkB L k [123]) = true
 ·
  rw [if_pos hc] at h
  simp only [Bool.and_eq_true, decide_eq_true_eq] at hc
  cases hu : Hg.gUntil L [125] item L.length (k + 1) with
  | none => rw [hu] at h; cases h
  | some x =>
    obtain ⟨l, k2⟩ := x
    rw [hu] at h
    simp only [Option.some.injEq, Prod.mk.injEq] at h
    obtain ⟨rfl, rfl⟩ := h
    obtain ⟨g0, g1, g2, hbA, hzA⟩ := alloc3 w (.cells #[.pointer (some ⟨pb, 0, none⟩)] 38) (.cells (gtCells (Hg.ndK 5) [] [] (.slice none 0 0) (.slice none 0 0) 0) 72) (.cells #[.pointer (some ⟨w.heap.size + 1, 0, none⟩)] 41)
    have HT := Lib.hid (show TrBox w pb (w.heap.size + 1) (Hg.ndK 5) [] [] _ (.slice none 0 0) [] from ⟨below_grown50 hbA (some pb), hlt, by omega, g0, g2, KidsAt.new g1 (by omega) (by omega)⟩)
    have HP := Lib.hid (hP.keep (hbA.mono hlt))
    have TW := Lib.hid (fun W (hp : PaAt W pb L k d) (ht : TrBox w pb (w.heap.size + 1) (Hg.ndK 5) [] [] W (.slice none 0 0) []) =>
     within_any pb k (k2 + 1) d 120 #[.pointer (some ⟨w.heap.size, 0, none⟩), .pointer (some ⟨w.heap.size + 1 + 1, 0, none⟩)] L (fun W => ∃ v G, GT.eraL G = l ∧ TrBox w pb (w.heap.size + 1) (Hg.ndK 5) [] [] W v G) W hp hc.1
      (fun X hp' hg' => block1_any pb (w.heap.size + 1) (d + 1) k k2 L hL l w X item (ht.keep hg') hp' hi hc.2 hu)
      (fun X u ⟨v, G, e, t⟩ => ⟨v, G, e, t.keep (grown_set (grown_refl _ _) 2 u)⟩) (fun X => by kernel_rfl))
    have TW1 := Lib.hid (TW.out _ HP.out HT.out)
    clear hbA hzA g0 g1 g2 hP hi hc hu HT HP TW
    go_enter Tryz.func82, Tryz.ntmps82
    go_wp2_with fail
    refine TW1.out.mono ?_
    generalize World.alloc (World.alloc (World.alloc w _) _) _ = W3
    rintro e w4 ⟨rfl, hp4, v, G, he, ht⟩
    have HT4 := Lib.hid ht
    have HP4 := Lib.hid hp4
    have HEA := Lib.hid he
    clear hp4 ht he TW1
    obtain ⟨e0, e1, -, -⟩ := HT4.out.cells
    go_wp2
    go_ret
    exact ⟨GT.mk (w.heap.size + 1) (Hg.ndK 5) [] [] G, rfl, by rw [era_mk, HEA.out]; rfl, HT4.out.kd.tree.down (by omega), HP4.out, HT4.out.gr⟩
 ·
  rw [if_neg hc] at h; cases h
end Go.Proofs.YtoelmnamlnbdhaaGreatDoor
