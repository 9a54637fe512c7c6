/-
  Part of a proof of RunLoops: contracts of functions that the claim reaches, and plain lemmas.
-/
import Derived.Test.YtoelmnamlnbdhaaGreatDoorKfAZ
import Derived.Test.YtoelmnamlnbdhaaGreatDoorKfAN
import Derived.DeepKeys3
set_option linter.all false
namespace Go.Proofs.YtoelmnamlnbdhaaGreatDoor
open Go.RowKit
open Hg (GT tkAt tkIs tkAt_get tkB tkB_lt tkB_is)
theorem alloc2_at (w : World) (o1 o2 : Obj) : ((w.alloc o1).alloc o2).heap[w.heap.size]? = some o1 ∧ ((w.alloc o1).alloc o2).heap[w.heap.size + 1]? = some o2 ∧ Below w.heap.size w ((w.alloc o1).alloc o2) ∧ ((w.alloc o1).alloc o2).heap.size = w.heap.size + 2 :=
 ⟨heap_alloc2_old w o1 o2, heap_alloc2_new w o1 o2, ((Below.refl _ _).alloc (Nat.le_refl _) _).alloc (by simp) _, by simp⟩
set_option maxHeartbeats 8000000 in
set_option maxRecDepth 100000 in
theorem function_any (pb f k k' : Nat) (L : List Hg.Tok) (hL : L.length ≤ 1000000) (t0 : GT) (w : World) (hP : PaAt w pb L k 0) (h : Hg.gF L f k = some (t0, k')) :
 Calls Tryz.prog 22 #[.pointer (some ⟨pb, 0, none⟩)] w (PaRes w pb L k' 0 t0) := by
 obtain ⟨c1, n1, c2, ps, k1, t, ss, k2, e, k3, e1, e2, c3, e3, e4, c4, c5, rfl, rfl⟩ := Hg.gF_inv h
 have hlt := hP.lt
 have hend := Hg.gUntil_end _ _ _ _ e3
 have hpl := Hg.gList_len e1
 have T1 := Lib.hid (want1 pb 0 L hL k Hg.wFunc (w.alloc (.cells #[.pointer (some ⟨pb, 0, none⟩)] 38)) (w.heap.size + 1) (by simp) (hP.fresh _) c1)
 have TN := Lib.hid (fun X (hp : PaAt X pb L (k + 1) 0) => name_any pb (k + 1) 0 L X hp (Hg.nameB_lt n1) hL (Hg.nameB_kind n1))
 have TP := Lib.hid (fun X (hp : PaAt X pb L (k + 2) 0) => want1 pb 0 L hL (k + 2) [40] X X.heap.size rfl hp c2)
 generalize (tkAt L (k + 1)).text = nm at TN ⊢
 have TL := Lib.hid (fun fb W' (hp : PaAt W' pb L (k + 3) 0) (ht : TrBox w pb fb ⟨3, nm, 0, 0, 0, []⟩ [] [] W' (.slice none 0 0) []) => list_any pb 0 47 #[.pointer (some ⟨w.heap.size, 0, none⟩), .pointer (some ⟨fb + 1, 0, none⟩)] L hL (Hg.gPar L) (fun l W => ∃ v G, GT.eraL G = l ∧ TrBox w pb fb ⟨3, nm, 0, 0, 0, []⟩ [] [] W v G)
  (fun W => by kernel_rfl) (fun l X Y ⟨v, G, e, t⟩ hg => ⟨v, G, e, t.keep hg⟩)
  (fun l X k0 a k1 hp ⟨v, G, e, t⟩ hl hit => (function1_any pb fb 0 k0 k1 L hL a ⟨3, nm, 0, 0, 0, []⟩ [] [] w X v G t hp (by rw [← eraL_len, e]; omega) hit).mono (fun e' X' ⟨he, hp', v', t', ha, ht⟩ => ⟨he, hp', v', G ++ [t'], by rw [eraL_append, e]; show l ++ [GT.era t'] = _; rw [ha], ht⟩))
  (fun k a k1 => Hg.gPar_adv) (k + 3) k1 ps W' hp ⟨_, [], rfl, ht⟩ e1)
 have TY := Lib.hid (fun X (hp : PaAt X pb L k1 0) => types_any pb k1 0 t L X hp hL e2)
 have TB := Lib.hid (fun X (hp : PaAt X pb L (k1 + 1) 0) => want1 pb 0 L hL (k1 + 1) [123] X X.heap.size rfl hp c3)
 have TI := Lib.hid (fun X k (hp : PaAt X pb L k 0) (hk : k < L.length) => is_any pb k 0 L Hg.wReturn X hp hk hL)
 have TS0 := Lib.hid (stmt_item pb L hL f 0)
 have TR := Lib.hid (fun X (hp : PaAt X pb L k2 0) => want1 pb 0 L hL k2 Hg.wReturn X X.heap.size rfl hp hend)
 have TE0 := Lib.hid (fun X (hp : PaAt X pb L (k2 + 1) 0) => expr_any pb L hL f 0 X _ _ _ hp e4)
 have TZ := Lib.hid (fun X (hp : PaAt X pb L k3 0) => want2 pb 0 L hL k3 [59] [125] X X.heap.size rfl hp c4 c5)
 have HU := Lib.hid e3
 have HEND := Lib.hid hend
 obtain ⟨j0, hj, hj0, hj1, hj2⟩ := info_parts treeInfo
 clear hP h c1 n1 c2 e1 e2 c3 e3 e4 c4 c5 hend
 go_enter Tryz.func22, Tryz.ntmps22
 go_wp2_with fail
 refine T1.out.mono ?_
 rintro e' w2 ⟨rfl, hp2, hg2⟩
 have hx2 := grown_at hg2 (heap_alloc_new w _) (by omega)
 have hg2 := grown_trans (World.grownBy_alloc w _ (some pb)) hg2
 have HP2 := Lib.hid hp2
 clear T1 hp2
 have d0 := cell_of_row w2 w.heap.size 0 _ _ (0, 0) hx2
 simp at d0
 go_wp2_with fail
 refine (TN.out _ HP2.out).mono ?_
 rintro e' w3 ⟨rfl, hp3, hg3⟩
 have hx3 := grown_at hg3 hx2 (by omega)
 have hg3 := grown_trans hg2 hg3
 clear d0 hx2 hg2 TN HP2
 obtain ⟨a0, a1, hb4, hz4⟩ := alloc2_at w3 (.cells #[.int .u8 3, strV nm, .int .i64 0, .int .u8 0, .int .u64 0, .slice none 0 0, .string ⟨#[]⟩, .string ⟨#[]⟩, .slice none 0 0, .int .u64 0] 72) (.cells #[.pointer (some ⟨w3.heap.size, 0, none⟩)] 41)
 have hlx : w.heap.size < w3.heap.size := (Array.getElem?_eq_some_iff.1 hx3).1
 have HT4 := Lib.hid (show TrBox w pb w3.heap.size ⟨3, nm, 0, 0, 0, []⟩ [] [] _ (.slice none 0 0) [] from ⟨grown_below hg3 hb4, hlt, hlx, (hb4.block _ hlx).trans hx3, a1, KidsAt.new a0 (by omega) (by omega)⟩)
 have HP4 := Lib.hid (hp3.keep (hb4.mono hp3.lt))
 clear hx3 hg3 hp3 a0 a1 hb4 hz4
 go_upto_region 3 with fail
 generalize World.alloc (World.alloc w3 _) _ = w4 at HT4 HP4 ⊢
 generalize w3.heap.size = fb at HT4 hlx ⊢
 generalize hDz : w.heap.size = b0 at hlt hlx TL ⊢
 have HD := Lib.hid hDz
 clear hDz
 obtain ⟨c0, c1, -, -⟩ := HT4.out.cells
 rw [HD.out] at c0
 go_wp2_with fail
 refine (TP.out _ HP4.out).mono ?_
 rintro e' w5 ⟨rfl, hp5, hg5⟩
 have HT5 := Lib.hid (HT4.out.keep hg5)
 have HP5 := Lib.hid hp5
 clear hp5 hg5 TP HT4 HP4 c0 c1
 obtain ⟨c0, c1, -, -⟩ := HT5.out.cells
 rw [HD.out] at c0
 go_wp2_with fail
 refine (TL.out _ _ HP5.out HT5.out).mono ?_
 rintro e' w6 ⟨rfl, hp6, v, G, hps, ht6⟩
 have HPS := Lib.hid hps
 have HT6 := Lib.hid ht6.drew
 have HP6 := Lib.hid hp6.drew
 clear hp6 ht6 hps TL HT5 HP5 c0 c1
 obtain ⟨c0, c1, -, -⟩ := HT6.out.cells
 rw [HD.out] at c0
 go_upto_region 5 with fail
 have hHeld : (fun w' => w'.cell? ⟨fb + 1, 0, none⟩ = some (.pointer (some ⟨fb, 0, none⟩)) ∧ w'.cell? ⟨b0, 0, none⟩ = some (.pointer (some ⟨pb, 0, none⟩))) w6.drew := ⟨c1, c0⟩
 clear c0 c1
 refine wp_region_two (fun w' => w'.cell? ⟨fb + 1, 0, none⟩ = some (.pointer (some ⟨fb, 0, none⟩)) ∧ w'.cell? ⟨b0, 0, none⟩ = some (.pointer (some ⟨pb, 0, none⟩))) 6 (by kernel_rfl) ?_
 refine tk 0 ?_ rfl (by kernel_rfl) (fun _ _ _ h => h) ‹_› (by rfl) ?_ ?_
 rotate_left
 · (intro w' hSw; (try dsimp only at hSw); go_simp; try with_reducible rfl)
 try simp only [Act.put, sA, sB, sC, sD, sE, sF]
 refine tk 1 ?_ rfl (by kernel_rfl) (fun _ _ _ h => h) ‹_› (by rfl) ?_ ?_
 rotate_left
 · (intro w' hSw; (try dsimp only at hSw); go_simp; try with_reducible rfl)
 try simp only [Act.put, sA, sB, sC, sD, sE, sF]
 refine wpAnyT_one (i := 2) rfl (by kernel_rfl) (fun K hK => ?_)
 go_simp
 refine (TY.out w6.drew HP6.out).mono ?_
 rintro e' w7 ⟨rfl, hp7, hg7⟩
 have HT7 := Lib.hid (HT6.out.keep hg7)
 have HP7 := Lib.hid hp7
 have hc7 := HT7.out.cells
 rw [HD.out] at hc7
 clear hp7 hg7 TY HT6 HP6
 refine hK.out _ _ (⟨hc7.2.1, hc7.1⟩) (fun hHeld => ?_)
 clear hK K
 try simp only [Act.put, sA, sB, sC, sD, sE, sF]
 refine tk 3 ?_ rfl (by kernel_rfl) (fun _ _ _ h => h) ‹_› (by rfl) ?_ ?_
 rotate_left
 · (intro w' hSw; (try dsimp only at hSw); go_simp; try with_reducible rfl)
 try simp only [Act.put, sA, sB, sC, sD, sE, sF]
 refine tk 4 ?_ rfl (by kernel_rfl) (fun _ _ _ h => h) ‹_› (by rfl) ?_ ?_
 rotate_left
 · (intro w' hSw; (try dsimp only at hSw); go_simp; try with_reducible rfl)
 try simp only [Act.put, sA, sB, sC, sD, sE, sF]
 refine tk 5 ?_ rfl (by kernel_rfl) (fun _ _ _ h => h) ‹_› (by rfl) ?_ ?_
 rotate_left
 · (intro w' hSw; (try dsimp only at hSw); go_simp; try with_reducible rfl)
 try simp only [Act.put, sA, sB, sC, sD, sE, sF]
 refine wpAnyT_tail (by kernel_rfl) ?_
 simp only [List.drop_succ_cons, List.drop_zero]
 have zf := HT7.out.cells.2.2.2
 have z3 := cell_of_row w7 fb 3 _ _ (0, 0) HT7.out.kd.hh
 simp at z3
 have HT8 := Lib.hid (show TrBox w pb fb ⟨3, nm, 0, t, 0, []⟩ [] [] (w7.setCell ⟨fb, 3, none⟩ (.int .u8 (t : Int))) v G from HT7.out.set rfl)
 have HP8 := Lib.hid (show PaAt (w7.setCell ⟨fb, 3, none⟩ (.int .u8 (t : Int))) pb L (k1 + 1) 0 from HP7.out.field (by omega) 3 _)
 clear hc7 HT7 HP7
 go_upto_region 6 with fail
 clear zf z3 hHeld
 generalize World.setCell w7 _ _ = w8 at HT8 HP8 ⊢
 obtain ⟨c0, c1, -, -⟩ := HT8.out.cells
 rw [HD.out] at c0
 go_wp2_with fail
 refine (TB.out _ HP8.out).mono ?_
 rintro e' w9 ⟨rfl, hp9, hg9⟩
 have HTF := Lib.hid (HT8.out.keep hg9)
 have HBX := Lib.hid (show ∀ W, w9.grownBy W (some pb) → W.cell? ⟨b0, 0, none⟩ = some (.pointer (some ⟨pb, 0, none⟩)) from fun W hg => by have := (HTF.out.keep hg).cells.1; rw [HD.out] at this; exact this)
 have HTB := Lib.hid (show TrAt w9 pb w9.heap.size (Hg.ndK 5) [] [] (w9.alloc (.cells #[.int .u8 5, .string ⟨#[]⟩, .int .i64 0, .int .u8 0, .int .u64 0, .slice none 0 0, .string ⟨#[]⟩, .string ⟨#[]⟩, .slice none 0 0, .int .u64 0] 72)) (.slice none 0 0) [] from TrAt.new hp9.lt)
 have HPB := Lib.hid (hp9.fresh (.cells #[.int .u8 5, .string ⟨#[]⟩, .int .i64 0, .int .u8 0, .int .u64 0, .slice none 0 0, .string ⟨#[]⟩, .string ⟨#[]⟩, .slice none 0 0, .int .u64 0] 72))
 clear hp9 hg9 TB HT8 HP8 c0 c1
 go_wp2
 generalize World.alloc w9 _ = w10 at HTB HPB ⊢
 generalize w9.heap.size = bb at HTB ⊢
 go_loopw [] (fun wr => ∃ m k v2 G2 l1, G2.length ≤ k ∧ PaAt wr pb L k 0 ∧ TrAt w9 pb bb (Hg.ndK 5) [] [] wr v2 G2 ∧ Hg.gUntil L Hg.wReturn (Hg.gS L f 0) m k = some (l1, k2) ∧ GT.eraL G2 ++ l1 = ss) (fun wr => L.length - paK wr pb)
 case atStart => exact ⟨_, k1 + 2, _, [], ss, Nat.zero_le _, HPB.out, HTB.out, HU.out, rfl⟩
 case round =>
  obtain ⟨m, k, v2, G2, l1, hGk, hp, ht, hu, hll⟩ := hrel
  have HLL := Lib.hid hll
  clear HU HPB HTB hll
  cases m with
  | zero => cases hu
  | succ m =>
    have hPR := hp.read
    obtain ⟨pa, pc, -, -, -, p3, -, -⟩ := hPR
    have HK := Lib.hid hp.paK
    have c0 := HBX.out wr ht.gr
    have HTR := Lib.hid ht
    have HPR := Lib.hid hp
    rcases Hg.gUntil_inv hu with ⟨hb, rfl, rfl⟩ | ⟨hb, hk, a, k4, l2, hit, hu2, rfl⟩
    ·
     have TI1 := TI.out wr k2 hp (tkB_lt hb)
     rw [tkB_is hb] at TI1
     have TI1 := Lib.hid TI1
     have hk2 := tkB_lt hb
     have HG2 := Lib.hid (show G2.length ≤ 1000000 by omega)
     clear hp ht hu hb TI
     go_wp2_with fail
     refine TI1.out.mono ?_
     rintro e' w11 ⟨rfl, hb11⟩
     have HT11 := Lib.hid (HTR.out.keep (below_grown50 hb11 (some pb)))
     have HP11 := Lib.hid (HPR.out.keep (hb11.mono HPR.out.lt))
     clear hb11 TI1 HTR HPR c0 p3
     have c0 := HBX.out _ HT11.out.gr
     go_wp2_with fail
     refine (TR.out _ HP11.out).mono ?_
     rintro e' w12 ⟨rfl, hp12, hg12⟩
     have HT := Lib.hid (HT11.out.keep hg12).drew
     have HP := Lib.hid hp12.drew
     have hpw12 : pb < w12.drew.heap.size := hp12.lt
     have TE := TE0
     clear hp12 hg12 TR HT11 HP11 c0 TE0
     obtain ⟨c8, f0⟩ := HT.out.cells
     have c0 := HBX.out _ HT.out.gr
     have hHeld : (fun w' => w'.cell? ⟨bb, 8, none⟩ = some v2 ∧ w'.cell? ⟨b0, 0, none⟩ = some (.pointer (some ⟨pb, 0, none⟩))) w12.drew := ⟨c8, c0⟩
     clear c8 c0
     go_upto_region 11 with fail
     refine wp_region_two (fun w' => w'.cell? ⟨bb, 8, none⟩ = some v2 ∧ w'.cell? ⟨b0, 0, none⟩ = some (.pointer (some ⟨pb, 0, none⟩))) 13 (by kernel_rfl) ?_
     refine tk 0 ?_ rfl (by kernel_rfl) (fun _ _ _ h => h) ‹_› (by rfl) ?_ ?_
     rotate_left
     · (intro w' hSw; (try dsimp only at hSw); go_simp; try with_reducible rfl)
     try simp only [Act.put, sA, sB, sC, sD, sE, sF]
     refine tk 1 ?_ rfl (by kernel_rfl) (fun _ _ _ h => h) ‹_› (by rfl) ?_ ?_
     rotate_left
     · (intro w' hSw; (try dsimp only at hSw); go_simp; try with_reducible rfl)
     try simp only [Act.put, sA, sB, sC, sD, sE, sF]
     refine tk 2 ?_ rfl (by kernel_rfl) (fun _ _ _ h => h) ‹_› (by rfl) ?_ ?_
     rotate_left
     · (intro w' hSw; (try dsimp only at hSw); go_simp; try with_reducible rfl)
     try simp only [Act.put, sA, sB, sC, sD, sE, sF]
     refine tk 3 ?_ rfl (by kernel_rfl) (fun _ _ _ h => h) ‹_› (by rfl) ?_ ?_
     rotate_left
     · (intro w' hSw; (try dsimp only at hSw); go_simp; try with_reducible rfl)
     try simp only [Act.put, sA, sB, sC, sD, sE, sF]
     refine tk 4 ?_ rfl (by kernel_rfl) (fun _ _ _ h => h) ‹_› (by rfl) ?_ ?_
     rotate_left
     · (intro w' hSw; (try dsimp only at hSw); go_simp; try with_reducible rfl)
     try simp only [Act.put, sA, sB, sC, sD, sE, sF]
     refine tk 5 ?_ rfl (by kernel_rfl) (fun _ _ _ h => h) ‹_› (by rfl) ?_ ?_
     rotate_left
     · (intro w' hSw; (try dsimp only at hSw); go_simp; try with_reducible rfl)
     try simp only [Act.put, sA, sB, sC, sD, sE, sF]
     refine tk 6 ?_ rfl (by kernel_rfl) (fun _ _ _ h => h) ‹_› (by rfl) ?_ ?_
     rotate_left
     · (intro w' hSw; (try dsimp only at hSw); go_simp; try with_reducible rfl)
     try simp only [Act.put, sA, sB, sC, sD, sE, sF]
     refine wpAnyT_one (i := 7) rfl (by kernel_rfl) (fun K hK => ?_)
     go_simp
     refine (TE.out w12.drew HP.out).mono ?_
     rintro e w5 ⟨te, rfl, hera, hF4, hp5, hg5⟩
     have HT4 := Lib.hid (HT.out.keep hg5)
     have HP4 := Lib.hid hp5
     have HG4 := Lib.hid hg5
     have HF4 := Lib.hid hF4
     have HER := Lib.hid hera
     clear hp5 hg5 hF4 hera TE HP
     refine hK.out _ _ (⟨HT4.out.cells.1, HBX.out _ HT4.out.gr⟩) (fun hHeld => ?_)
     clear hK K
     try simp only [Act.put, sA, sB, sC, sD, sE, sF]
     refine wpAnyT_one (i := 8) rfl (by kernel_rfl) (fun K hK => ?_)
     go_simp
     generalize hWs : World.alloc _ _ = Ws
     obtain ⟨hBs, hhs, hzs⟩ := new_alloc hWs
     have HTs := Lib.hid (HT4.out.keep (below_grown50 hBs (some pb)))
     clear hWs
     refine hK.out _ _ (⟨HTs.out.cells.1, HBX.out _ HTs.out.gr⟩) (fun hHeld => ?_)
     clear hK K
     try simp only [Act.put, sA, sB, sC, sD, sE, sF]
     refine tk 9 ?_ rfl (by kernel_rfl) (fun _ _ _ h => h) ‹_› (by rfl) ?_ ?_
     rotate_left
     · (intro w' hSw; (try dsimp only at hSw); go_simp; try with_reducible rfl)
     try simp only [Act.put, sA, sB, sC, sD, sE, sF]
     refine wpAnyT_one (i := 10) rfl (by kernel_rfl) (fun K hK => ?_)
     go_simp
     generalize hWt : World.alloc _ _ = Wt
     obtain ⟨hBt, hht, hzt⟩ := new_alloc hWt
     have HT5 := Lib.hid (HTs.out.keep (below_grown50 hBt (some pb)))
     rw [hzs] at hht
     have hls : w5.heap.size < Ws.heap.size := by omega
     have hhs2 := (hBt.block w5.heap.size hls).trans hhs
     have HG5 := Lib.hid (grown_below (grown_below HG4.out hBs) hBt)
     have HP5 := Lib.hid ((HP4.out.keep (hBs.mono HP4.out.lt)).keep (hBt.mono (by have := HP4.out.lt; omega)))
     have HF5 := Lib.hid (show ForestIn w12.drew.heap.size Wt [GT.mk (w5.heap.size + 1) (Hg.ndK 10) [] [] [te]] from ForestX.above (W := w5) (r := pb) (a := some ⟨w5.heap.size, 0, none⟩) (c := 1) HF4.out (grown_below (grown_below (grown_refl _ _) hBs) hBt) (by have := HP4.out.lt; exact hpw12) HG4.out.size (by omega) hht (sl_one hhs2) (fun q e => by injection e with e; have e : w5.heap.size = q := e; exact ⟨by omega, by omega, by omega, fun h => h⟩))
     clear hWt hBs hBt hhs hhs2 hht hzs hzt hls
     refine hK.out _ _ (⟨HT5.out.cells.1, HBX.out _ HT5.out.gr⟩) (fun hHeld => ?_)
     clear hK K
     try simp only [Act.put, sA, sB, sC, sD, sE, sF]
     refine wpAnyT_one (i := 11) rfl (by kernel_rfl) (fun K hK => ?_)
     go_simp
     generalize hWa : World.alloc _ _ = Wa
     obtain ⟨hBa, hha, hza⟩ := new_alloc hWa
     have HTa := Lib.hid (HT5.out.keep (below_grown50 hBa (some pb)))
     have HBa := Lib.hid hBa
     clear hza hWa hBa
     refine hK.out _ _ (⟨HTa.out.cells.1, HBX.out _ HTa.out.gr⟩) (fun hHeld => ?_)
     clear hK K
     try simp only [Act.put, sA, sB, sC, sD, sE, sF]
     refine wpAnyT_one (i := 12) rfl (by kernel_rfl) (fun K hK => ?_)
     have hsz := HTa.out.kd.sz
     refine step_append_own rfl (.tmp 59) (.tmp 66) _ rfl (bb + 1) 41 j0 _ 1 8 Tryz.underlying48 hj hj0 hj1 hj2 rfl (by decide) v2 G2.length (G2.map ptrV) rfl HTa.out.kd.own ⟨Wt.heap.size, 0, none⟩ 1 1 [ptrV (GT.mk (w5.heap.size + 1) (Hg.ndK 10) [] [] [te])] rfl rfl ?_ (by intro u hu; simp only [List.mem_singleton] at hu; subst hu; rfl) ?_ ?_ ?_ ?_
     ·
      exact cells_at hha
     ·
      have := HG2.out; unfold maxLen; omega
     ·
      have := HG2.out; omega
     ·
      exact hsz
     intro v3 W3 own3 g3 at3
     obtain ⟨y3, z3, rfl⟩ := ownsRow_succ own3
     have g3' : Wa.grownBy W3 v2.ownBlock := ⟨g3.os, g3.tape, g3.output, g3.size, g3.block⟩
     have HK6 := Lib.hid (HT.out.grow (W1 := Wt) (Wd := Wa) (t := (GT.mk (w5.heap.size + 1) (Hg.ndK 10) [] [] [te])) HG5.out HF5.out HBa.out own3 g3' at3)
     have HP6 := Lib.hid (HTa.out.pa (HP5.out.keep (HBa.out.mono HP5.out.lt)) g3' (.slice (some ⟨y3, 0, none⟩) (G2.length + 1) z3))
     have hX : ∀ q, v2.ownBlock = some q → bb + 1 ≤ q := fun q e => (HTa.out.kd.own.lt q e).1
     have hk3 : ∀ i, i < bb + 1 → W3.heap[i]? = Wa.heap[i]? := fun i hi => g3.block i (by omega) (fun e => by have := hX i e.symm; omega)
     have y2 := cell_of_row W3 bb 8 _ _ (0, 0) ((hk3 _ (by omega)).trans HTa.out.kd.hh)
     have y1 := HBX.out W3 (grown_step HTa.out.gr g3' (fun q e => by have := hX q e; have := HT.out.eq; omega))
     have HF3 := Lib.hid (show ∀ i, W3.frozen? ⟨bb, i, none⟩ = false from fun i => by simp [World.frozen?, (hk3 _ (by omega)).trans HTa.out.kd.hh])
     clear own3 g3 at3 g3' hX hk3 hsz
     refine hK.out _ _ (⟨y2, y1⟩) (fun hHeld => ?_)
     clear hK K
     try simp only [Act.put, sA, sB, sC, sD, sE, sF]
     refine wpAnyT_tail (by kernel_rfl) ?_
     simp only [List.drop_succ_cons, List.drop_zero]
     obtain ⟨y2, y1⟩ := hHeld
     have f3 := HF3.out
     clear f0
     go_upto_region 12 with fail
     clear y2 y1 f3
     generalize World.setCell W3 _ _ = w15 at HK6 HP6 ⊢
     have c0 := HBX.out _ HK6.out.gr
     go_wp2_with fail
     refine (TZ.out _ HP6.out).mono ?_
     rintro e' w16 ⟨rfl, hp16, hg16⟩
     have HTB := Lib.hid (HK6.out.keep hg16)
     have HP5 := Lib.hid hp16
     have HG5 := Lib.hid (show w9.grownBy w16 (some pb) from HTB.out.gr)
     have HT5 := Lib.hid (HTF.out.keep HG5.out)
     have HF5 := Lib.hid (show ForestIn w9.heap.size w16 [GT.mk bb (Hg.ndK 5) [] [] (G2 ++ [GT.mk (w5.heap.size + 1) (Hg.ndK 10) [] [] [te]])] from by rw [HTB.out.eq]; exact HTB.out.kd.tree)
     have HG := Lib.hid (show G.length ≤ 1000000 by have := congrArg List.length HPS.out; rw [eraL_len] at this; omega)
     have HT := HTF
     clear hp16 hg16 TZ HK6 HP6 c0 HTB
     obtain ⟨c0, c1, c2, f0⟩ := HT5.out.drew.cells
     rw [HD.out] at c0
     have hHeld : (fun w' => w'.cell? ⟨fb + 1, 0, none⟩ = some (.pointer (some ⟨fb, 0, none⟩)) ∧ w'.cell? ⟨b0, 0, none⟩ = some (.pointer (some ⟨pb, 0, none⟩)) ∧ w'.cell? ⟨fb, 8, none⟩ = some v) w16.drew := ⟨c1, c0, c2⟩
     clear c0 c1 c2
     go_upto_region 13 with fail
     refine wp_region_two (fun w' => w'.cell? ⟨fb + 1, 0, none⟩ = some (.pointer (some ⟨fb, 0, none⟩)) ∧ w'.cell? ⟨b0, 0, none⟩ = some (.pointer (some ⟨pb, 0, none⟩)) ∧ w'.cell? ⟨fb, 8, none⟩ = some v) 8 (by kernel_rfl) ?_
     refine tk 0 ?_ rfl (by kernel_rfl) (fun _ _ _ h => h) ‹_› (by rfl) ?_ ?_
     rotate_left
     · (intro w' hSw; (try dsimp only at hSw); go_simp; try with_reducible rfl)
     try simp only [Act.put, sA, sB, sC, sD, sE, sF]
     refine tk 1 ?_ rfl (by kernel_rfl) (fun _ _ _ h => h) ‹_› (by rfl) ?_ ?_
     rotate_left
     · (intro w' hSw; (try dsimp only at hSw); go_simp; try with_reducible rfl)
     try simp only [Act.put, sA, sB, sC, sD, sE, sF]
     refine tk 2 ?_ rfl (by kernel_rfl) (fun _ _ _ h => h) ‹_› (by rfl) ?_ ?_
     rotate_left
     · (intro w' hSw; (try dsimp only at hSw); go_simp; try with_reducible rfl)
     try simp only [Act.put, sA, sB, sC, sD, sE, sF]
     refine tk 3 ?_ rfl (by kernel_rfl) (fun _ _ _ h => h) ‹_› (by rfl) ?_ ?_
     rotate_left
     · (intro w' hSw; (try dsimp only at hSw); go_simp; try with_reducible rfl)
     try simp only [Act.put, sA, sB, sC, sD, sE, sF]
     refine tk 4 ?_ rfl (by kernel_rfl) (fun _ _ _ h => h) ‹_› (by rfl) ?_ ?_
     rotate_left
     · (intro w' hSw; (try dsimp only at hSw); go_simp; try with_reducible rfl)
     try simp only [Act.put, sA, sB, sC, sD, sE, sF]
     refine tk 5 ?_ rfl (by kernel_rfl) (fun _ _ _ h => h) ‹_› (by rfl) ?_ ?_
     rotate_left
     · (intro w' hSw; (try dsimp only at hSw); go_simp; try with_reducible rfl)
     try simp only [Act.put, sA, sB, sC, sD, sE, sF]
     refine wpAnyT_one (i := 6) rfl (by kernel_rfl) (fun K hK => ?_)
     go_simp
     generalize hWa : World.alloc _ _ = Wa
     obtain ⟨hBa, hha, hza⟩ := new_alloc hWa
     have hBa := hBa.trans ((Below.refl _ _).drew)
     have HTa := Lib.hid (HT5.out.keep (below_grown50 hBa (some pb)))
     have hca := HTa.out.cells
     rw [HD.out] at hca
     have HBa := Lib.hid hBa
     clear hza hWa hBa
     refine hK.out _ _ (⟨hca.2.1, hca.1, hca.2.2.1⟩) (fun hHeld => ?_)
     clear hK K
     try simp only [Act.put, sA, sB, sC, sD, sE, sF]
     refine wpAnyT_one (i := 7) rfl (by kernel_rfl) (fun K hK => ?_)
     have hsz := HTa.out.kd.sz
     refine step_append_own rfl (.tmp 77) (.tmp 79) _ rfl (fb + 2) 41 j0 _ 1 8 Tryz.underlying48 hj hj0 hj1 hj2 rfl (by decide) v G.length (G.map ptrV) rfl HTa.out.kd.own ⟨w16.heap.size, 0, none⟩ 1 1 [ptrV (GT.mk bb (Hg.ndK 5) [] [] (G2 ++ [GT.mk (w5.heap.size + 1) (Hg.ndK 10) [] [] [te]]))] rfl rfl ?_ (by intro u hu; simp only [List.mem_singleton] at hu; subst hu; rfl) ?_ ?_ ?_ ?_
     ·
      exact cells_at (w := Wa.drew) hha
     ·
      have := HG.out; unfold maxLen; omega
     ·
      have := HG.out; omega
     ·
      exact hsz
     intro v3 W3 own3 g3 at3
     obtain ⟨y3, z3, rfl⟩ := ownsRow_succ own3
     have g3' : Wa.drew.grownBy W3 v.ownBlock := ⟨g3.os, g3.tape, g3.output, g3.size, g3.block⟩
     have HK6 := Lib.hid (HT.out.grow (W1 := w16) (Wd := Wa.drew) (t := (GT.mk bb (Hg.ndK 5) [] [] (G2 ++ [GT.mk (w5.heap.size + 1) (Hg.ndK 10) [] [] [te]]))) HG5.out HF5.out HBa.out own3 g3' at3)
     have HP6 := Lib.hid (HTa.out.pa (HP5.out.keep (HBa.out.mono HP5.out.lt)) g3' (.slice (some ⟨y3, 0, none⟩) (G.length + 1) z3))
     have hX : ∀ q, v.ownBlock = some q → fb + 2 ≤ q := fun q e => (HTa.out.kd.own.lt q e).1
     have hk3 : ∀ i, i < fb + 2 → W3.heap[i]? = Wa.drew.heap[i]? := fun i hi => g3.block i (by omega) (fun e => by have := hX i e.symm; omega)
     have y0 := cell_of_row W3 (fb + 1) 0 _ _ (0, 0) ((hk3 _ (by omega)).trans HTa.out.fp)
     have y1 := cell_of_row W3 b0 0 _ _ (0, 0) ((hk3 b0 (by omega)).trans (by have := HTa.out.box; rw [HD.out] at this; exact this))
     have y2 := cell_of_row W3 fb 8 _ _ (0, 0) ((hk3 _ (by omega)).trans HTa.out.kd.hh)
     have HF3 := Lib.hid (show ∀ i, W3.frozen? ⟨fb, i, none⟩ = false from fun i => by simp [World.frozen?, (hk3 _ (by omega)).trans HTa.out.kd.hh])
     clear own3 g3 at3 g3' hX hk3 hca hsz hha
     refine hK.out _ _ (⟨y0, y1, y2⟩) (fun hHeld => ?_)
     clear hK K
     try simp only [Act.put, sA, sB, sC, sD, sE, sF]
     refine wpAnyT_tail (by kernel_rfl) ?_
     simp only [List.drop_succ_cons, List.drop_zero]
     obtain ⟨y0, y1, y2⟩ := hHeld
     have f3 := HF3.out
     clear f0
     go_upto_region 14 with fail
     clear y0 y1 y2 f3
     generalize World.setCell W3 _ _ = w17 at HK6 HP6 ⊢
     obtain ⟨c0, c1, -, -⟩ := HK6.out.cells
     go_wp2
     go_ret
     have hes : GT.eraL G2 = ss := by have := HLL.out; simpa using this
     exact ⟨GT.mk fb ⟨3, nm, 0, t, 0, []⟩ [] [] _, rfl, by rw [era_mk, eraL_append, HPS.out]; show GT.mk 0 _ [] [] (ps ++ [GT.mk 0 (Hg.ndK 5) [] [] (GT.eraL (G2 ++ [GT.mk (w5.heap.size + 1) (Hg.ndK 10) [] [] [te]]))]) = _; rw [eraL_append, hes]; show GT.mk 0 _ [] [] (ps ++ [GT.mk 0 (Hg.ndK 5) [] [] (ss ++ [GT.mk 0 (Hg.ndK 10) [] [] [GT.era te]])]) = _; rw [HER.out]; rfl, HK6.out.kd.tree.down (by rw [HD.out]; omega), HP6.out, HK6.out.gr⟩
    ·
     have TI1 := TI.out wr k hp hk
     rw [tkB_not hb hk] at TI1
     have TI1 := Lib.hid TI1
     have TS := Lib.hid (fun X (hx : PaAt X pb L k 0) => TS0.out.1 X k a k4 hx hit)
     have hA1 := (TS0.out.2 k a k4 hit).1
     have HU2 := Lib.hid hu2
     have HG2 := Lib.hid (show G2.length ≤ 1000000 by omega)
     clear hp ht hu hb hit hu2
     go_wp2_with fail
     refine TI1.out.mono ?_
     rintro e' w11 ⟨rfl, hb11⟩
     have HT := Lib.hid (HTR.out.keep (below_grown50 hb11 (some pb))).drew
     have HP := Lib.hid (HPR.out.keep (hb11.mono HPR.out.lt)).drew
     clear hb11 TI1 HTR HPR c0 p3
     obtain ⟨c8, f0⟩ := HT.out.cells
     have c0 := HBX.out _ HT.out.gr
     have hHeld : (fun w' => w'.cell? ⟨bb, 8, none⟩ = some v2 ∧ w'.cell? ⟨b0, 0, none⟩ = some (.pointer (some ⟨pb, 0, none⟩))) w11.drew := ⟨c8, c0⟩
     clear c8 c0
     go_upto_region 9 with fail
     refine wp_region_two (fun w' => w'.cell? ⟨bb, 8, none⟩ = some v2 ∧ w'.cell? ⟨b0, 0, none⟩ = some (.pointer (some ⟨pb, 0, none⟩))) 9 (by kernel_rfl) ?_
     refine tk 0 ?_ rfl (by kernel_rfl) (fun _ _ _ h => h) ‹_› (by rfl) ?_ ?_
     rotate_left
     · (intro w' hSw; (try dsimp only at hSw); go_simp; try with_reducible rfl)
     try simp only [Act.put, sA, sB, sC, sD, sE, sF]
     refine tk 1 ?_ rfl (by kernel_rfl) (fun _ _ _ h => h) ‹_› (by rfl) ?_ ?_
     rotate_left
     · (intro w' hSw; (try dsimp only at hSw); go_simp; try with_reducible rfl)
     try simp only [Act.put, sA, sB, sC, sD, sE, sF]
     refine tk 2 ?_ rfl (by kernel_rfl) (fun _ _ _ h => h) ‹_› (by rfl) ?_ ?_
     rotate_left
     · (intro w' hSw; (try dsimp only at hSw); go_simp; try with_reducible rfl)
     try simp only [Act.put, sA, sB, sC, sD, sE, sF]
     refine tk 3 ?_ rfl (by kernel_rfl) (fun _ _ _ h => h) ‹_› (by rfl) ?_ ?_
     rotate_left
     · (intro w' hSw; (try dsimp only at hSw); go_simp; try with_reducible rfl)
     try simp only [Act.put, sA, sB, sC, sD, sE, sF]
     refine tk 4 ?_ rfl (by kernel_rfl) (fun _ _ _ h => h) ‹_› (by rfl) ?_ ?_
     rotate_left
     · (intro w' hSw; (try dsimp only at hSw); go_simp; try with_reducible rfl)
     try simp only [Act.put, sA, sB, sC, sD, sE, sF]
     refine tk 5 ?_ rfl (by kernel_rfl) (fun _ _ _ h => h) ‹_› (by rfl) ?_ ?_
     rotate_left
     · (intro w' hSw; (try dsimp only at hSw); go_simp; try with_reducible rfl)
     try simp only [Act.put, sA, sB, sC, sD, sE, sF]
     refine wpAnyT_one (i := 6) rfl (by kernel_rfl) (fun K hK => ?_)
     go_simp
     refine (TS.out w11.drew HP.out).mono ?_
     rintro e w5 ⟨t1, rfl, hera, hF5, hp5, hg5⟩
     have HT5 := Lib.hid (HT.out.keep hg5)
     have HP5 := Lib.hid hp5
     have HG5 := Lib.hid hg5
     have HF5 := Lib.hid hF5
     have HER := Lib.hid hera
     clear hp5 hg5 hF5 hera TS HP
     refine hK.out _ _ (⟨HT5.out.cells.1, HBX.out _ HT5.out.gr⟩) (fun hHeld => ?_)
     clear hK K
     try simp only [Act.put, sA, sB, sC, sD, sE, sF]
     refine wpAnyT_one (i := 7) rfl (by kernel_rfl) (fun K hK => ?_)
     go_simp
     generalize hWa : World.alloc _ _ = Wa
     obtain ⟨hBa, hha, hza⟩ := new_alloc hWa
     have HTa := Lib.hid (HT5.out.keep (below_grown50 hBa (some pb)))
     have HBa := Lib.hid hBa
     clear hza hWa hBa
     refine hK.out _ _ (⟨HTa.out.cells.1, HBX.out _ HTa.out.gr⟩) (fun hHeld => ?_)
     clear hK K
     try simp only [Act.put, sA, sB, sC, sD, sE, sF]
     refine wpAnyT_one (i := 8) rfl (by kernel_rfl) (fun K hK => ?_)
     have hsz := HTa.out.kd.sz
     refine step_append_own rfl (.tmp 45) (.tmp 48) _ rfl (bb + 1) 41 j0 _ 1 8 Tryz.underlying48 hj hj0 hj1 hj2 rfl (by decide) v2 G2.length (G2.map ptrV) rfl HTa.out.kd.own ⟨w5.heap.size, 0, none⟩ 1 1 [ptrV t1] rfl rfl ?_ (by intro u hu; simp only [List.mem_singleton] at hu; subst hu; rfl) ?_ ?_ ?_ ?_
     ·
      exact cells_at hha
     ·
      have := HG2.out; unfold maxLen; omega
     ·
      have := HG2.out; omega
     ·
      exact hsz
     intro v3 W3 own3 g3 at3
     obtain ⟨y3, z3, rfl⟩ := ownsRow_succ own3
     have g3' : Wa.grownBy W3 v2.ownBlock := ⟨g3.os, g3.tape, g3.output, g3.size, g3.block⟩
     have HK6 := Lib.hid (HT.out.grow (W1 := w5) (Wd := Wa) (t := t1) HG5.out HF5.out HBa.out own3 g3' at3)
     have HP6 := Lib.hid (HTa.out.pa (HP5.out.keep (HBa.out.mono HP5.out.lt)) g3' (.slice (some ⟨y3, 0, none⟩) (G2.length + 1) z3))
     have hX : ∀ q, v2.ownBlock = some q → bb + 1 ≤ q := fun q e => (HTa.out.kd.own.lt q e).1
     have hk3 : ∀ i, i < bb + 1 → W3.heap[i]? = Wa.heap[i]? := fun i hi => g3.block i (by omega) (fun e => by have := hX i e.symm; omega)
     have y2 := cell_of_row W3 bb 8 _ _ (0, 0) ((hk3 _ (by omega)).trans HTa.out.kd.hh)
     have y1 := HBX.out W3 (grown_step HTa.out.gr g3' (fun q e => by have := hX q e; have := HT.out.eq; omega))
     have HF3 := Lib.hid (show ∀ i, W3.frozen? ⟨bb, i, none⟩ = false from fun i => by simp [World.frozen?, (hk3 _ (by omega)).trans HTa.out.kd.hh])
     clear own3 g3 at3 g3' hX hk3 hsz
     refine hK.out _ _ (⟨y2, y1⟩) (fun hHeld => ?_)
     clear hK K
     try simp only [Act.put, sA, sB, sC, sD, sE, sF]
     refine wpAnyT_tail (by kernel_rfl) ?_
     simp only [List.drop_succ_cons, List.drop_zero]
     obtain ⟨y2, y1⟩ := hHeld
     have f3 := HF3.out
     clear f0
     go_wp2
     go_roundw
     case rel => exact ⟨m, k4, _, G2 ++ [t1], l2, by simp; omega, HP6.out, HK6.out, HU2.out, by rw [eraL_append]; show GT.eraL G2 ++ [GT.era t1] ++ l2 = ss; rw [HER.out, ← HLL.out, List.append_assoc]; rfl⟩
     case measure => have := HP6.out.paK; rw [this, HK.out]; omega
end Go.Proofs.YtoelmnamlnbdhaaGreatDoor
namespace Hg
variable {L : List Tok}
theorem gUntil_le {stop : Str} {item : Nat → Option (GT × Nat)} (hi : ∀ k a k1, item k = some (a, k1) → k < k1 ∧ k < L.length) : ∀ n k l k2, gUntil L stop item n k = some (l, k2) → k ≤ k2 := by
 intro n
 induction n with
 | zero => intro k l k2 h; cases h
 | succ n ih =>
   intro k l k2 h
   rcases gUntil_inv h with ⟨_, _, h⟩ | ⟨_, _, a, k1, m, h3, h4, _⟩
   ·
    omega
   ·
    have := ih _ _ _ h4; have := (hi _ _ _ h3).1; omega
theorem gF_adv {f k k' : Nat} {a : GT} (h : gF L f k = some (a, k')) : k < k' ∧ k < L.length := by
 obtain ⟨c1, _, _, ps, k1, t, ss, k2, e, k3, e1, _, _, e3, e4, _, _, _, h2⟩ := gF_inv h
 have := gList_adv (fun k a k1 => gPar_adv) e1
 have := gUntil_le (fun k a k1 => Go.Proofs.YtoelmnamlnbdhaaGreatDoor.gS_adv f 0 k a k1) _ _ _ _ e3
 have := (gE_adv _ _ _ _ _ e4).1
 exact ⟨by omega, tkB_lt c1⟩
theorem gMod_inv {f k k' : Nat} {a : GT} (h : gMod L f k = some (a, k')) : tkB L k wModule = true ∧ nameB L (k + 1) = true ∧ tkB L (k + 2) [123] = true ∧
 ∃ l k1, gUntil L [125] (gF L f) L.length (k + 3) = some (l, k1) ∧ a = .mk 0 ⟨2, (tkAt L (k + 1)).text, 0, 0, 0, []⟩ [] [] l ∧ k' = k1 + 1 := by
 unfold gMod at h
 by_cases c1 : (tkB L k wModule && (nameB L (k + 1) && tkB L (k + 2) [123])) = true
 ·
  rw [if_pos c1] at h
  simp only [Bool.and_eq_true] at c1
  refine ⟨c1.1, c1.2.1, c1.2.2, ?_⟩
  cases e1 : gUntil L [125] (gF L f) L.length (k + 3) with
  | none => rw [e1] at h; cases h
  | some x =>
    obtain ⟨l, k1⟩ := x
    rw [e1] at h
    injection h with h
    injection h with h1 h2
    exact ⟨l, k1, rfl, h1.symm, h2.symm⟩
 ·
  rw [if_neg c1] at h; cases h
theorem gMods_inv {f n k : Nat} {l : List GT} (h : gMods L f (n + 1) k = some l) : (L.length ≤ k ∧ l = []) ∨ (k < L.length ∧ ∃ a k1 m, gMod L f k = some (a, k1) ∧ gMods L f n k1 = some m ∧ l = a :: m) := by
 unfold gMods at h
 by_cases hk : L.length ≤ k
 ·
  rw [if_pos hk] at h
  injection h with h
  exact .inl ⟨hk, h.symm⟩
 ·
  rw [if_neg hk] at h
  refine .inr ⟨by omega, ?_⟩
  cases e1 : gMod L f k with
  | none => rw [e1] at h; cases h
  | some x =>
    obtain ⟨a, k1⟩ := x
    rw [e1] at h
    dsimp only at h
    cases e2 : gMods L f n k1 with
    | none => rw [e2] at h; cases h
    | some m =>
      rw [e2] at h
      injection h with h
      exact ⟨a, k1, m, rfl, e2, h.symm⟩
end Hg
namespace Go.Proofs.YtoelmnamlnbdhaaGreatDoor
open Go.RowKit
open Hg (GT tkAt tkIs tkAt_get tkB tkB_lt tkB_is)
set_option maxHeartbeats 8000000 in
set_option maxRecDepth 100000 in
theorem program_any (pb : Nat) (L : List Hg.Tok) (hL : L.length ≤ 1000000) (t0 : GT) (w : World) (hP : PaAt w pb L 0 0) (h : Hg.gProg L = some t0) :
 Calls Tryz.prog 9 #[.pointer (some ⟨pb, 0, none⟩)] w fun e w' => ∃ k, PaRes w pb L k 0 t0 e w' := by
 unfold Hg.gProg at h
 cases hm : Hg.gMods L 40 L.length 0 with
 | none => rw [hm] at h; cases h
 | some l =>
 rw [hm] at h
 injection h with h
 subst h
 have HM := Lib.hid (show ∃ m, Hg.gMods L 40 m 0 = some l from ⟨_, hm⟩)
 have HT := Lib.hid (show TrAt w pb w.heap.size (Hg.ndK 1) [] [] (w.alloc (.cells #[.int .u8 1, .string ⟨#[]⟩, .int .i64 0, .int .u8 0, .int .u64 0, .slice none 0 0, .string ⟨#[]⟩, .string ⟨#[]⟩, .slice none 0 0, .int .u64 0] 72)) (.slice none 0 0) [] from TrAt.new hP.lt)
 have HP := Lib.hid (hP.fresh (.cells #[.int .u8 1, .string ⟨#[]⟩, .int .i64 0, .int .u8 0, .int .u64 0, .slice none 0 0, .string ⟨#[]⟩, .string ⟨#[]⟩, .slice none 0 0, .int .u64 0] 72))
 obtain ⟨j0, hj, hj0, hj1, hj2⟩ := info_parts treeInfo
 clear hP hm
 go_enter Tryz.func9, Tryz.ntmps9
 go_wp2
 generalize World.alloc w _ = w0 at HT HP ⊢
 generalize w.heap.size = b0 at HT ⊢
 go_loopw [] (fun wr => ∃ m k v G l1, G.length ≤ k ∧ k ≤ L.length ∧ PaAt wr pb L k 0 ∧ TrAt w pb b0 (Hg.ndK 1) [] [] wr v G ∧ Hg.gMods L 40 m k = some l1 ∧ GT.eraL G ++ l1 = l) (fun wr => L.length - paK wr pb)
 case atStart =>
  obtain ⟨m, hm⟩ := HM.out
  exact ⟨m, 0, _, [], l, Nat.le_refl _, Nat.zero_le _, HP.out, HT.out, hm, rfl⟩
 case round =>
  obtain ⟨m, k, v, G, l1, hGk, hkL, hp, ht, hu, hll⟩ := hrel
  have HLL := Lib.hid hll
  clear HM HP HT hll
  cases m with
  | zero => cases hu
  | succ m =>
    have hPR := hp.read
    obtain ⟨pa, pc, c0, c1, -, p3, -, -⟩ := hPR
    have HK := Lib.hid hp.paK
    have HTR := Lib.hid ht
    have HPR := Lib.hid hp
    rcases Hg.gMods_inv hu with ⟨hk, rfl⟩ | ⟨hk, a, k4, l2, hit, hu2, rfl⟩
    ·
     have hq : decide ((k : Int) < (L.length : Int)) = false := by simp; omega
     have hq2 : decide (k < L.length) = false := by simp; omega
     clear hp ht hu hk hkL hGk
     go_wp2
     go_quiet (fail)
     have HTF := Lib.hid (HTR.out.keep (below_grown50 (below_drewN (Below.refl _ _) nq) (some pb)))
     have HPF := Lib.hid (HPR.out.keep (below_drewN (Below.refl _ _) nq))
     clear c0 c1 p3 HTR HPR
     go_wp2
     go_ret
     exact ⟨k, HTF.out.res HPF.out (by have := HLL.out; simp at this; rw [this]; rfl)⟩
    ·
     have hq : decide ((k : Int) < (L.length : Int)) = true := by simp; omega
     have hq2 : decide (k < L.length) = true := by simp; omega
     obtain ⟨d1, n1, d2, fs, k5, hfs, rfl, rfl⟩ := Hg.gMod_inv hit
     have hend := Hg.gUntil_end _ _ _ _ hfs
     have hk5 := Hg.gUntil_le (fun k a k1 h => Hg.gF_adv h) _ _ _ _ hfs
     have hk5L := tkB_lt hend
     have T1 := Lib.hid (fun X (hp : PaAt X pb L k 0) => want1 pb 0 L hL k Hg.wModule X X.heap.size rfl hp d1)
     have TN := Lib.hid (fun X (hp : PaAt X pb L (k + 1) 0) => name_any pb (k + 1) 0 L X hp (Hg.nameB_lt n1) hL (Hg.nameB_kind n1))
     have T2 := Lib.hid (fun X (hp : PaAt X pb L (k + 2) 0) => want1 pb 0 L hL (k + 2) [123] X X.heap.size rfl hp d2)
     have HFS := Lib.hid hfs
     have HEND := Lib.hid hend
     have HU2 := Lib.hid hu2
     have HG := Lib.hid (show G.length ≤ 1000000 by omega)
     have HLN := Lib.hid (And.intro hGk hk5)
     generalize (tkAt L (k + 1)).text = nm at TN HLL
     clear hp ht hu hit hu2 hfs d1 n1 d2 hend hk5 hGk hkL
     go_wp2
     go_quiet (fail)
     have HT1 := Lib.hid (HTR.out.keep (below_grown50 (below_drewN (Below.refl _ _) nq) (some pb)))
     have HP1 := Lib.hid (HPR.out.keep (below_drewN (Below.refl _ _) nq))
     clear c0 c1 p3 HTR HPR hq hq2
     generalize World.drewN wr nq = w1 at HT1 HP1 ⊢
     go_wp2_with fail
     refine (T1.out _ HP1.out).mono ?_
     rintro e' w2 ⟨rfl, hp2, hg2⟩
     have HT2 := Lib.hid (HT1.out.keep hg2)
     have HP2 := Lib.hid hp2
     clear hp2 hg2 T1 HT1 HP1
     go_wp2_with fail
     refine (TN.out _ HP2.out).mono ?_
     rintro e' w3 ⟨rfl, hp3, hg3⟩
     have HT3 := Lib.hid (HT2.out.keep hg3)
     have HM4 := Lib.hid (show TrAt w3 pb w3.heap.size ⟨2, nm, 0, 0, 0, []⟩ [] [] (w3.alloc (.cells #[.int .u8 2, strV nm, .int .i64 0, .int .u8 0, .int .u64 0, .slice none 0 0, .string ⟨#[]⟩, .string ⟨#[]⟩, .slice none 0 0, .int .u64 0] 72)) (.slice none 0 0) [] from TrAt.new hp3.lt)
     have HP4 := Lib.hid (hp3.fresh (.cells #[.int .u8 2, strV nm, .int .i64 0, .int .u8 0, .int .u64 0, .slice none 0 0, .string ⟨#[]⟩, .string ⟨#[]⟩, .slice none 0 0, .int .u64 0] 72))
     clear hp3 hg3 TN HT2 HP2
     go_upto_region 5 with fail
     generalize World.alloc w3 _ = w4 at HM4 HP4 ⊢
     generalize w3.heap.size = mb at HM4 ⊢
     go_wp2_with fail
     refine (T2.out _ HP4.out).mono ?_
     rintro e' w5 ⟨rfl, hp5, hg5⟩
     have HM5 := Lib.hid (HM4.out.keep hg5)
     have HP5 := Lib.hid hp5
     clear hp5 hg5 T2 HM4 HP4
     go_wp2
     go_loopw [] (fun wi => ∃ m k v2 F l1, F.length ≤ k ∧ PaAt wi pb L k 0 ∧ TrAt w3 pb mb ⟨2, nm, 0, 0, 0, []⟩ [] [] wi v2 F ∧ Hg.gUntil L [125] (Hg.gF L 40) m k = some (l1, k5) ∧ GT.eraL F ++ l1 = fs) (fun wi => L.length - paK wi pb)
     case atStart => exact ⟨_, k + 3, _, [], fs, Nat.zero_le _, HP5.out, HM5.out, HFS.out, rfl⟩
     case round =>
      obtain ⟨m2, k2, v2, F, l3, hFk, hpi, hti, hui, hlli⟩ := hrel
      have HLI := Lib.hid hlli
      clear HFS HP5 HM5 hlli
      cases m2 with
      | zero => cases hui
      | succ m2 =>
        have hPR := hpi.read
        obtain ⟨pa, pc, -, -, -, p3, -, -⟩ := hPR
        have HKI := Lib.hid hpi.paK
        have HTI := Lib.hid hti
        have HPI := Lib.hid hpi
        rcases Hg.gUntil_inv hui with ⟨hb, rfl, rfl⟩ | ⟨hb, hk2, a, k6, l4, hit, hu4, rfl⟩
        ·
         have TY := Lib.hid (take_yes pb k5 0 L [125] wr hpi (tkB_lt hb) hL (tkB_is hb))
         clear hpi hti hui hb
         go_wp2_with fail
         refine TY.out.mono ?_
         rintro e' w6 ⟨rfl, hp6, hg6⟩
         have HM6 := Lib.hid (HTI.out.keep hg6)
         have HR6 := Lib.hid (HT3.out.keep HM6.out.gr)
         have HP6 := Lib.hid hp6
         have hbl := HR6.out.kd.lt
         have hme : w3.heap.size = mb := HM6.out.eq
         have hsb := HM6.out.gr.size
         have h3b := HT3.out.kd.sz
         clear hp6 hg6 TY HTI HPI p3
         obtain ⟨c8, f8⟩ := HR6.out.cells
         have hvr := HR6.out.kd.own
         go_wp2_with (at_builtin; refine wpList_append_own_at _ rfl (.tmp 61) (.tmp 63) _ rfl (b0 + 1) 41 j0 _ 1 8 Tryz.underlying48 hj hj0 hj1 hj2 rfl (by decide) v G.length (G.map ptrV) rfl (hvr.alloc _) ⟨w6.heap.size, 0, none⟩ 1 1 [.pointer (some ⟨mb, 0, none⟩)] rfl rfl (cells_new _ _ _) ?_ ?_ ?_ ?_ ?_)
         ·
          intro u hu; simp only [List.mem_singleton] at hu; subst hu; rfl
         ·
          have := HG.out; unfold maxLen; omega
         ·
          have := HG.out; omega
         ·
          simp; omega
         ·
          intro v3 W3 own3 g3 _ at3
          obtain ⟨y3, z3, rfl⟩ := ownsRow_succ own3
          have hol : ∀ q, v.ownBlock = some q → b0 + 1 ≤ q := fun q e => (hvr.lt q e).1
          have hbn : Below w6.heap.size w6 (w6.alloc (.cells #[.pointer (some ⟨mb, 0, none⟩)] 41)) := (Below.refl _ _).alloc (Nat.le_refl _) _
          have hb3 := (g3.block b0 (by simp; omega) (fun e => by have := hol _ e.symm; omega)).trans ((hbn.block _ hbl).trans HR6.out.kd.hh)
          have HK6 := Lib.hid (HT3.out.grow (W1 := w6) HM6.out.gr (t := GT.mk mb ⟨2, nm, 0, 0, 0, []⟩ [] [] F) (by rw [hme]; exact HM6.out.kd.tree) hbn own3 g3 (by simpa using at3))
          have HPF := Lib.hid ((HR6.out.keep (below_grown50 hbn (some pb))).pa (HP6.out.keep (hbn.mono HP6.out.lt)) g3 (.slice (some ⟨y3, 0, none⟩) (G.length + 1) z3))
          have f8 : ∀ i, W3.frozen? ⟨b0, i, none⟩ = false := fun i => by simp [World.frozen?, hb3]
          have c8 := cell_of_row W3 b0 8 _ _ (0, 0) hb3
          simp at c8
          clear own3 g3 at3 hb3 hbn hvr hol HR6 HP6 HM6 hsb h3b hbl
          go_wp2
          go_roundw
          case rel => exact ⟨m, k5 + 1, _, G ++ [GT.mk mb ⟨2, nm, 0, 0, 0, []⟩ [] [] F], l2, by have := HLN.out; simp; omega, hk5L, HPF.out, HK6.out, HU2.out, by have h1 := HLI.out; simp only [List.append_nil] at h1; rw [eraL_append]; show GT.eraL G ++ [GT.mk 0 _ [] [] (GT.eraL F)] ++ l2 = l; rw [h1, ← HLL.out, List.append_assoc]; rfl⟩
          case measure => have h1 := HPF.out.paK; have h2 := HLN.out; rw [h1, HK.out]; omega
        ·
         have TN2 := Lib.hid (take_no pb k2 0 L [125] wr hpi hk2 hL (tkB_not hb hk2))
         have TS := Lib.hid (fun X (hx : PaAt X pb L k2 0) => function_any pb 40 k2 k6 L hL a X hx hit)
         have hA1 := (Hg.gF_adv hit).1
         have HU4 := Lib.hid hu4
         have HG2 := Lib.hid (show F.length ≤ 1000000 by omega)
         clear hpi hti hui hb hit hu4
         go_wp2_with fail
         refine TN2.out.mono ?_
         rintro e' w11 ⟨rfl, hb11⟩
         have HT := Lib.hid (HTI.out.keep (below_grown50 hb11 (some pb))).drew
         have HP := Lib.hid (HPI.out.keep (hb11.mono HPI.out.lt)).drew
         clear hb11 TN2 HTI HPI p3
         obtain ⟨hHeld, f0⟩ := HT.out.cells
         go_upto_region 7 with fail
         refine wp_region_two (fun w' => w'.cell? ⟨mb, 8, none⟩ = some v2) 9 (by kernel_rfl) ?_
         refine tk 0 ?_ rfl (by kernel_rfl) (fun _ _ _ h => h) ‹_› (by rfl) ?_ ?_
         rotate_left
         · (intro w' hSw; (try dsimp only at hSw); go_simp; try with_reducible rfl)
         try simp only [Act.put, sA, sB, sC, sD, sE, sF]
         refine tk 1 ?_ rfl (by kernel_rfl) (fun _ _ _ h => h) ‹_› (by rfl) ?_ ?_
         rotate_left
         · (intro w' hSw; (try dsimp only at hSw); go_simp; try with_reducible rfl)
         try simp only [Act.put, sA, sB, sC, sD, sE, sF]
         refine tk 2 ?_ rfl (by kernel_rfl) (fun _ _ _ h => h) ‹_› (by rfl) ?_ ?_
         rotate_left
         · (intro w' hSw; (try dsimp only at hSw); go_simp; try with_reducible rfl)
         try simp only [Act.put, sA, sB, sC, sD, sE, sF]
         refine tk 3 ?_ rfl (by kernel_rfl) (fun _ _ _ h => h) ‹_› (by rfl) ?_ ?_
         rotate_left
         · (intro w' hSw; (try dsimp only at hSw); go_simp; try with_reducible rfl)
         try simp only [Act.put, sA, sB, sC, sD, sE, sF]
         refine tk 4 ?_ rfl (by kernel_rfl) (fun _ _ _ h => h) ‹_› (by rfl) ?_ ?_
         rotate_left
         · (intro w' hSw; (try dsimp only at hSw); go_simp; try with_reducible rfl)
         try simp only [Act.put, sA, sB, sC, sD, sE, sF]
         refine tk 5 ?_ rfl (by kernel_rfl) (fun _ _ _ h => h) ‹_› (by rfl) ?_ ?_
         rotate_left
         · (intro w' hSw; (try dsimp only at hSw); go_simp; try with_reducible rfl)
         try simp only [Act.put, sA, sB, sC, sD, sE, sF]
         refine wpAnyT_one (i := 6) rfl (by kernel_rfl) (fun K hK => ?_)
         go_simp
         refine (TS.out w11.drew HP.out).mono ?_
         rintro e w5 ⟨t, rfl, hera, hF5, hp5, hg5⟩
         have HT5 := Lib.hid (HT.out.keep hg5)
         have HP5 := Lib.hid hp5
         have HG5 := Lib.hid hg5
         have HF5 := Lib.hid hF5
         have HER := Lib.hid hera
         have hc5 := HT5.out.cells
         clear hp5 hg5 hF5 hera TS HP
         refine hK.out _ _ (hc5.1) (fun hHeld => ?_)
         clear hK K
         try simp only [Act.put, sA, sB, sC, sD, sE, sF]
         refine wpAnyT_one (i := 7) rfl (by kernel_rfl) (fun K hK => ?_)
         go_simp
         generalize hWa : World.alloc _ _ = Wa
         obtain ⟨hBa, hha, hza⟩ := new_alloc hWa
         have HTa := Lib.hid (HT5.out.keep (below_grown50 hBa (some pb)))
         have hca := HTa.out.cells
         have HBa := Lib.hid hBa
         clear hza hWa hBa hc5
         refine hK.out _ _ (hca.1) (fun hHeld => ?_)
         clear hK K
         try simp only [Act.put, sA, sB, sC, sD, sE, sF]
         refine wpAnyT_one (i := 8) rfl (by kernel_rfl) (fun K hK => ?_)
         have hsz := HTa.out.kd.sz
         refine step_append_own rfl (.tmp 50) (.tmp 53) _ rfl (mb + 1) 41 j0 _ 1 8 Tryz.underlying48 hj hj0 hj1 hj2 rfl (by decide) v2 F.length (List.map ptrV F) rfl HTa.out.kd.own ⟨w5.heap.size, 0, none⟩ 1 1 [ptrV t] rfl rfl ?_ (by intro u hu; simp only [List.mem_singleton] at hu; subst hu; rfl) ?_ ?_ ?_ ?_
         ·
          exact cells_at hha
         ·
          have := HG2.out; unfold maxLen; omega
         ·
          have := HG2.out; omega
         ·
          exact hsz
         intro v3 W3 own3 g3 at3
         obtain ⟨y3, z3, rfl⟩ := ownsRow_succ own3
         have g3' : Wa.grownBy W3 v2.ownBlock := ⟨g3.os, g3.tape, g3.output, g3.size, g3.block⟩
         have HK6 := Lib.hid (HT.out.grow (W1 := w5) (Wd := Wa) HG5.out HF5.out HBa.out own3 g3' at3)
         have HP6 := Lib.hid (HTa.out.pa (HP5.out.keep (HBa.out.mono HP5.out.lt)) g3' (.slice (some ⟨y3, 0, none⟩) (F.length + 1) z3))
         have hX : ∀ q, v2.ownBlock = some q → mb + 1 ≤ q := fun q e => (HTa.out.kd.own.lt q e).1
         have hk3 : ∀ i, i < mb + 1 → W3.heap[i]? = Wa.heap[i]? := fun i hi => g3.block i (by omega) (fun e => by have := hX i e.symm; omega)
         have y2 := cell_of_row W3 mb 8 _ _ (0, 0) ((hk3 _ (by omega)).trans HTa.out.kd.hh)
         have HF3 := Lib.hid (show ∀ i, W3.frozen? ⟨mb, i, none⟩ = false from fun i => by simp [World.frozen?, (hk3 _ (by omega)).trans HTa.out.kd.hh])
         clear own3 g3 at3 g3' hX hk3 hca hsz hha
         refine hK.out _ _ (y2) (fun hHeld => ?_)
         clear hK K
         try simp only [Act.put, sA, sB, sC, sD, sE, sF]
         refine wpAnyT_tail (by kernel_rfl) ?_
         simp only [List.drop_succ_cons, List.drop_zero]
         have y2 := hHeld
         have f3 := HF3.out
         clear f0
         go_wp2
         go_roundw
         case rel => exact ⟨m2, k6, _, F ++ [t], l4, by simp; omega, HP6.out, HK6.out, HU4.out, by rw [eraL_append]; show GT.eraL F ++ [GT.era t] ++ l4 = fs; rw [HER.out, ← HLI.out, List.append_assoc]; rfl⟩
         case measure => have := HP6.out.paK; rw [this, HKI.out]; omega
end Go.Proofs.YtoelmnamlnbdhaaGreatDoor
namespace Go.Proofs.YtoelmnamlnbdhaaGreatDoor
open Go.RowKit
open Hg (GT)
structure Fr (D : Nat → Prop) (w w' : World) : Prop where
 os : w'.os = w.os
 tape : w'.tape = w.tape
 output : w'.output = w.output
 size : w.heap.size ≤ w'.heap.size
 block : ∀ i, i < w.heap.size → ¬ D i → w'.heap[i]? = w.heap[i]?
namespace Fr
variable {D D' : Nat → Prop} {w w1 w2 w' : World}
theorem refl (D : Nat → Prop) (w : World) : Fr D w w := ⟨rfl, rfl, rfl, Nat.le_refl _, fun _ _ _ => rfl⟩
theorem trans (h : Fr D w w1) (h' : Fr D w1 w2) : Fr D w w2 :=
 ⟨h'.os.trans h.os, h'.tape.trans h.tape, h'.output.trans h.output, Nat.le_trans h.size h'.size, fun i hi hd => (h'.block i (Nat.lt_of_lt_of_le hi h.size) hd).trans (h.block i hi hd)⟩
theorem imp (h : Fr D w w') (hd : ∀ q, q < w.heap.size → D q → D' q) : Fr D' w w' := ⟨h.os, h.tape, h.output, h.size, fun i hi hn => h.block i hi (fun e => hn (hd i hi e))⟩
theorem of_grown {row : Option Nat} (h : w.grownBy w' row) (hd : ∀ q, row = some q → D q) : Fr D w w' := ⟨h.os, h.tape, h.output, h.size, fun i hi hn => h.block i hi (fun e => hn (hd i e.symm))⟩
theorem of_below (h : Below w.heap.size w w') : Fr D w w' := ⟨h.os, h.tape, h.output, h.size, fun i hi _ => h.block i hi⟩
theorem step (h : Fr D w w1) {row : Option Nat} (h' : w1.grownBy w2 row) (hd : ∀ q, row = some q → D q ∨ w.heap.size ≤ q) : Fr D w w2 :=
 ⟨h'.os.trans h.os, h'.tape.trans h.tape, h'.output.trans h.output, Nat.le_trans h.size h'.size, fun i hi hn => (h'.block i (Nat.lt_of_lt_of_le hi h.size) (fun e => by
  rcases hd i e.symm with h | h
  ·
   exact hn h
  ·
   omega)).trans (h.block i hi hn)⟩
theorem then_ (h : Fr D w w1) (h' : Fr D' w1 w2) (hd : ∀ q, q < w.heap.size → D' q → D q) : Fr D w w2 :=
 ⟨h'.os.trans h.os, h'.tape.trans h.tape, h'.output.trans h.output, Nat.le_trans h.size h'.size, fun i hi hn => (h'.block i (Nat.lt_of_lt_of_le hi h.size) (fun e => hn (hd i hi e))).trans (h.block i hi hn)⟩
theorem set (h : Fr D w w1) {p : Addr} (hp : D p.block ∨ w.heap.size ≤ p.block) (u : Value) : Fr D w (w1.setCell p u) :=
 ⟨h.os, h.tape, h.output, by simpa using h.size, fun i hi hn => (Below.heap_setCell w1 p u i (fun e => by
  rcases hp with hp | hp
  ·
   exact hn (e ▸ hp)
  ·
   omega)).trans (h.block i hi hn)⟩
theorem alloc (h : Fr D w w1) (o : Obj) : Fr D w (w1.alloc o) := h.then_ (D' := fun _ => False) (of_below ((Below.refl _ _).alloc (Nat.le_refl _) o)) (fun _ _ h => h.elim)
theorem drew (h : Fr D w w1) : Fr D w w1.drew := ⟨h.os, h.tape, h.output, h.size, h.block⟩
theorem below (h : Fr D w w') (hd : ∀ q, q < w.heap.size → ¬ D q) : Below w.heap.size w w' := ⟨h.os, h.tape, h.output, h.size, fun i hi => h.block i hi (hd i hi)⟩
theorem at_ (h : Fr D w w') {i : Nat} {o : Obj} (hh : w.heap[i]? = some o) (hd : ¬ D i) : w'.heap[i]? = some o := (h.block i (Array.getElem?_eq_some_iff.1 hh).1 hd).trans hh
theorem cell (h : Fr D w w') {p : Addr} (hp : p.block < w.heap.size) (hd : ¬ D p.block) : w'.cell? p = w.cell? p := World.cell?_of_block (h.block _ hp hd)
end Fr
theorem Sl.fr {D : Nat → Prop} {w w' : World} {B : Nat} {v : Value} {n : Nat} {xs : List Value} (h : Sl w B v n xs) (hB : B ≤ w.heap.size) (hf : Fr D w w') (hd : ∀ q, v.ownBlock = some q → ¬ D q) : Sl w' B v n xs := by
 obtain ⟨a, c, hv, hc⟩ := h
 refine ⟨a, c, hv, fun hn => ?_⟩
 obtain ⟨b, o, ha, hb, hx⟩ := hc hn
 have hnd : ¬ D b := hd b (by rw [hv, ha]; rfl)
 exact ⟨b, o, ha, hb, fun j hj => (hf.cell (p := ⟨b, o + j, none⟩) (Nat.lt_of_lt_of_le hb hB) hnd).trans (hx j hj)⟩
theorem ownsMap_fr {P : Program} {k : TypeId} {R : Value → Option (DataW Value × List MemPlace)} {w w' : World} {b n : Nat} {D : DataW Value} {S : Nat → Prop} (h : w.ownsMap P k R b n D) (hf : Fr S w w') (hb : ¬ S b) : w'.ownsMap P k R b n D := by
 have hlt := h.lt
 obtain ⟨es, clock, hh, F, hs, hD⟩ := h
 exact ⟨es, clock, (hf.block b hlt hb).trans hh, F, hs, hD⟩
theorem Sl.mapAt {α : Type} {f : α → Value} {w : World} {B n c : Nat} {a : Option Addr} {l : List α} (h : Sl w B (.slice a n c) l.length (l.map f)) {k : Nat} (hk : k < l.length) :
 ∃ b o, a = some ⟨b, o, none⟩ ∧ b < B ∧ w.cell? ⟨b, o + k, none⟩ = some (f l[k]) := by
 obtain ⟨a', c', hv, hc⟩ := h
 injection hv with h1 h2 h3
 subst h1
 obtain ⟨b, o, ha, hb, hx⟩ := hc (by simp; omega)
 refine ⟨b, o, ha, hb, ?_⟩
 have := hx k (by simpa using hk)
 simpa using this
theorem NodeAt.lt {w : World} {ids : Nat → Nat} {κ : Nat → Value} {Z : Nat → Prop} {s : GT} (h : NodeAt w ids κ Z s) : s.b < w.heap.size := by
 obtain ⟨a, c, hh, _⟩ := h
 exact (Array.getElem?_eq_some_iff.1 hh).1
theorem NodeAt.fr {D : Nat → Prop} {w w' : World} {ids : Nat → Nat} {κ : Nat → Value} {Z : Nat → Prop} {s : GT} (h : NodeAt w ids κ Z s) (hf : Fr D w w') (h1 : ¬ D s.b) (h2 : ∀ q, Z q → ¬ D q) : NodeAt w' ids κ Z s := by
 obtain ⟨a, c, hh, hs, hz⟩ := h
 exact ⟨a, c, hf.at_ hh h1, (hs.fr (Nat.le_refl _) hf (fun q e => h2 q (hz q e))).more hf.size, hz⟩
def upd {α : Type} (f : Nat → α) (b : Nat) (v : α) : Nat → α := fun i => if i = b then v else f i
theorem upd_same {α : Type} (f : Nat → α) (b : Nat) (v : α) : upd f b v b = v := by simp [upd]
theorem upd_other {α : Type} (f : Nat → α) {b i : Nat} (v : α) (h : i ≠ b) : upd f b v i = f i := by simp [upd, h]
theorem NodeAt.setId {w : World} {ids : Nat → Nat} {κ : Nat → Value} {Z : Nat → Prop} {s : GT} (h : NodeAt w ids κ Z s) {b : Nat} (id : Nat) (hz : ¬ Z b) : NodeAt (w.setCell ⟨b, 9, none⟩ (.int .u64 (id : Int))) (upd ids b id) κ Z s := by
 obtain ⟨a, c, hh, hs, hq⟩ := h
 have hsl := sl_set_ne (p := ⟨b, 9, none⟩) hs (fun e => hz (hq _ e)) (.int .u64 (id : Int))
 refine ⟨a, c, ?_, by simpa using hsl, hq⟩
 by_cases e : s.b = b
 ·
  subst e
  rw [upd_same]
  exact heap_setCell_same hh _
 ·
  rw [upd_other _ _ e]
  exact (Below.heap_setCell w _ _ s.b e).trans hh
theorem NodeAt.setK {w : World} {ids : Nat → Nat} {κ : Nat → Value} {Z : Nat → Prop} {s : GT} (h : NodeAt w ids κ Z s) {b : Nat} (v : Value) (hz : ¬ Z b) : NodeAt (w.setCell ⟨b, 5, none⟩ v) ids (upd κ b v) Z s := by
 obtain ⟨a, c, hh, hs, hq⟩ := h
 have hsl := sl_set_ne (p := ⟨b, 5, none⟩) hs (fun e => hz (hq _ e)) v
 refine ⟨a, c, ?_, by simpa using hsl, hq⟩
 by_cases e : s.b = b
 ·
  subst e
  rw [upd_same]
  exact heap_setCell_same hh _
 ·
  rw [upd_other _ _ e]
  exact (Below.heap_setCell w _ _ s.b e).trans hh
def setN (ids : Nat → Nat) (n : Nat) : List Nat → Nat → Nat
 | [] => ids
 | b :: bs => setN (upd ids b n) (n + 1) bs
theorem setN_append : ∀ (l m : List Nat) (ids : Nat → Nat) (n : Nat), setN ids n (l ++ m) = setN (setN ids n l) (n + l.length) m
 | [], m, ids, n => rfl
 | b :: l, m, ids, n => by
   show setN (upd ids b n) (n + 1) (l ++ m) = setN (setN (upd ids b n) (n + 1) l) (n + (l.length + 1)) m
   rw [setN_append l m, Nat.add_assoc, Nat.add_comm 1]
theorem GT.blocksL_take {l : List GT} {j : Nat} (h : j < l.length) : GT.blocksL (l.take (j + 1)) = GT.blocksL (l.take j) ++ l[j].blocks := by
 rw [List.take_succ_eq_append_getElem h]
 unfold GT.blocksL GT.blocks
 rw [GT.subsL_append, GT.subsL_cons, GT.subsL_nil, List.append_nil, List.map_append]
theorem GT.blocks_len (t : GT) : t.blocks.length = t.subs.length := by simp [GT.blocks]
theorem GT.blocksL_len (l : List GT) : (GT.blocksL l).length = (GT.subsL l).length := by simp [GT.blocksL]
theorem GT.subsL_take_le (l : List GT) (j : Nat) : (GT.blocksL (l.take j)).length ≤ (GT.blocksL l).length := by
 have h : GT.blocksL l = GT.blocksL (l.take j) ++ GT.blocksL (l.drop j) := by
  conv => lhs; rw [← List.take_append_drop j l]
  unfold GT.blocksL
  rw [GT.subsL_append, List.map_append]
 rw [h, List.length_append]
 omega
theorem GT.len_le : ∀ (l : List GT), l.length ≤ (GT.blocksL l).length
 | [] => Nat.zero_le _
 | t :: l => by
   have := GT.len_le l
   rw [GT.blocksL_len] at this ⊢
   rw [GT.subsL_cons, List.length_append, GT.subs_eq]
   simp
   omega
@[reducible] def nmCells (av : Value) (next : Nat) (fv mv cv uv sv : Value) : Array Value := #[av, .int .u64 (next : Int), fv, mv, cv, uv, sv]
def NmAt (w : World) (nb : Nat) (av : Value) (next : Nat) (fv mv cv uv sv : Value) : Prop := w.heap[nb]? = some (.cells (nmCells av next fv mv cv uv sv) 51 (0, 0))
theorem NmAt.lt {w : World} {nb next : Nat} {av fv mv cv uv sv : Value} (h : NmAt w nb av next fv mv cv uv sv) : nb < w.heap.size := (Array.getElem?_eq_some_iff.1 h).1
end Go.Proofs.YtoelmnamlnbdhaaGreatDoor
