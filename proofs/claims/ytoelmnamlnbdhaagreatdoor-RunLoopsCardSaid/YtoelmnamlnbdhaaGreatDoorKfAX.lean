/-
  Part of a proof of RunLoops: contracts of functions that the claim reaches, and plain lemmas.
-/
import Derived.Test.YtoelmnamlnbdhaaGreatDoorKfAV
import Derived.Test.YtoelmnamlnbdhaaGreatDoorKfAP
set_option linter.all false
namespace Go.Proofs.YtoelmnamlnbdhaaGreatDoor
open Go.RowKit
open Hg (GT tkAt tkIs tkAt_get tkB tkB_lt tkB_is)
def GrownRes (w : World) (pb fb : Nat) (nd : Hg.Node) (md tt : List UInt8) (L : List Hg.Tok) (k d : Nat) (G : List GT) (a : GT) (e : Ending) (w' : World) : Prop :=
 e = .returned (.tuple #[]) ∧ PaAt w' pb L k d ∧ ∃ v t, GT.era t = a ∧ TrBox w pb fb nd md tt w' v (G ++ [t])
set_option maxHeartbeats 4000000 in
set_option maxRecDepth 100000 in
theorem call11_any (pb fb d k1 : Nat) (L : List Hg.Tok) (a : GT) (nd : Hg.Node) (md tt : List UInt8) (w W : World) (v : Value) (G : List GT) (hT : TrBox w pb fb nd md tt W v G) (hG : G.length ≤ 1000000)
 (hE : ∀ W', Below W.heap.size W W' → Calls Tryz.prog 50 #[.pointer (some ⟨pb, 0, none⟩)] W' (PaRes W' pb L k1 d a)) :
 Calls Tryz.prog 122 #[.pointer (some ⟨fb + 1, 0, none⟩), .pointer (some ⟨w.heap.size, 0, none⟩)] W (GrownRes w pb fb nd md tt L k1 d G a) := by
 have TE := Lib.hid hE
 have HG := Lib.hid hG
 have HT := Lib.hid (hT.keep (below_grown50 (w' := W.drew) ((Below.refl _ _).drew) (some pb)))
 obtain ⟨c0, c1, c2, f0⟩ := HT.out.cells
 obtain ⟨j0, hj, hj0, hj1, hj2⟩ := info_parts treeInfo
 have hbw := hT.gf
 clear hT hE hG
 go_enter Tryz.func122, Tryz.ntmps122
 generalize hDz : w.heap.size = b0 at c0 hbw ⊢
 have HD := Lib.hid hDz
 have hHeld : (fun w' => w'.cell? ⟨fb + 1, 0, none⟩ = some (.pointer (some ⟨fb, 0, none⟩)) ∧ w'.cell? ⟨b0, 0, none⟩ = some (.pointer (some ⟨pb, 0, none⟩)) ∧ w'.cell? ⟨fb, 8, none⟩ = some v) W.drew := ⟨c1, c0, c2⟩
 clear c0 c1 c2 hDz
 refine wp_region_two (fun w' => w'.cell? ⟨fb + 1, 0, none⟩ = some (.pointer (some ⟨fb, 0, none⟩)) ∧ w'.cell? ⟨b0, 0, none⟩ = some (.pointer (some ⟨pb, 0, none⟩)) ∧ w'.cell? ⟨fb, 8, none⟩ = some v) 9 (by kernel_rfl) ?_
 refine tk 0 ?_ rfl (by kernel_rfl) (fun _ _ _ h => h) ‹_› ?_ ?_ (tk 1 ?_ rfl (by kernel_rfl) (fun _ _ _ h => h) ‹_› ?_ ?_ (tk 2 ?_ rfl (by kernel_rfl) (fun _ _ _ h => h) ‹_› ?_ ?_ (tk 3 ?_ rfl (by kernel_rfl) (fun _ _ _ h => h) ‹_› ?_ ?_ (tk 4 ?_ rfl (by kernel_rfl) (fun _ _ _ h => h) ‹_› ?_ ?_ (tk 5 ?_ rfl (by kernel_rfl) (fun _ _ _ h => h) ‹_› ?_ ?_ ?_)))))
 all_goals try (first | rfl | ((try simp only [Act.put, sA, sB, sC]); intro w' hSw; (try dsimp only at hSw); go_simp; try with_reducible rfl))
 try simp only [Act.put, sA, sB, sC]
 refine wpAnyT_one (i := 6) rfl (by kernel_rfl) (fun K hK => ?_)
 go_simp
 refine (TE.out W.drew ((Below.refl _ _).drew)).mono ?_
 rintro e w5 ⟨t, rfl, hera, hF5, hp5, hg5⟩
 have HT5 := Lib.hid (HT.out.keep hg5)
 have HP5 := Lib.hid hp5
 have HG5 := Lib.hid hg5
 have HF5 := Lib.hid hF5
 have HER := Lib.hid hera
 have hc5 := HT5.out.cells
 rw [HD.out] at hc5
 clear hp5 hg5 hF5 hera TE
 refine hK.out _ _ (⟨hc5.2.1, hc5.1, hc5.2.2.1⟩) (fun hHeld => ?_)
 clear hK K
 try simp only [Act.put, sA, sB, sC]
 refine wpAnyT_one (i := 7) rfl (by kernel_rfl) (fun K hK => ?_)
 go_simp
 generalize hWa : World.alloc _ _ = Wa
 obtain ⟨hBa, hha, hza⟩ := new_alloc hWa
 have HTa := Lib.hid (HT5.out.keep (below_grown50 hBa (some pb)))
 have hca := HTa.out.cells
 rw [HD.out] at hca
 have HBa := Lib.hid hBa
 clear hza hWa hBa hc5
 refine hK.out _ _ (⟨hca.2.1, hca.1, hca.2.2.1⟩) (fun hHeld => ?_)
 clear hK K
 try simp only [Act.put, sA, sB, sC]
 refine wpAnyT_one (i := 8) rfl (by kernel_rfl) (fun K hK => ?_)
 have hsz := HTa.out.kd.sz
 refine step_append_own rfl (.tmp 6) (.tmp 9) _ rfl (fb + 2) 41 j0 _ 1 8 Tryz.underlying48 hj hj0 hj1 hj2 rfl (by decide) v G.length (G.map ptrV) rfl HTa.out.kd.own ⟨w5.heap.size, 0, none⟩ 1 1 [ptrV t] rfl rfl ?_ (by intro u hu; simp only [List.mem_singleton] at hu; subst hu; rfl) ?_ ?_ ?_ ?_
 ·
  exact cells_at hha
 ·
  have := HG.out; unfold maxLen; omega
 ·
  have := HG.out; omega
 ·
  exact hsz
 intro v3 W3 own3 g3 at3
 obtain ⟨y3, z3, rfl⟩ := ownsRow_succ own3
 have g3' : Wa.grownBy W3 v.ownBlock := ⟨g3.os, g3.tape, g3.output, g3.size, g3.block⟩
 have HK6 := Lib.hid (HT.out.grow (W1 := w5) (Wd := Wa) HG5.out HF5.out HBa.out own3 g3' at3)
 have HP6 := Lib.hid (HTa.out.pa (HP5.out.keep (HBa.out.mono HP5.out.lt)) g3' (.slice (some ⟨y3, 0, none⟩) (G.length + 1) z3))
 have hX : ∀ q, v.ownBlock = some q → fb + 2 ≤ q := fun q e => (HTa.out.kd.own.lt q e).1
 have hk3 : ∀ i, i < fb + 2 → W3.heap[i]? = Wa.heap[i]? := fun i hi => g3.block i (by omega) (fun e => by have := hX i e.symm; omega)
 have y0 := cell_of_row W3 (fb + 1) 0 _ _ (0, 0) ((hk3 _ (by omega)).trans HTa.out.fp)
 have y1 := cell_of_row W3 b0 0 _ _ (0, 0) ((hk3 b0 (by omega)).trans (by have := HTa.out.box; rw [HD.out] at this; exact this))
 have y2 := cell_of_row W3 fb 8 _ _ (0, 0) ((hk3 _ (by omega)).trans HTa.out.kd.hh)
 have HF3 := Lib.hid (show ∀ i, W3.frozen? ⟨fb, i, none⟩ = false from fun i => by simp [World.frozen?, (hk3 _ (by omega)).trans HTa.out.kd.hh])
 clear own3 g3 at3 g3' hX hk3 hca hsz hha
 refine hK.out _ _ (⟨y0, y1, y2⟩) (fun hHeld => ?_)
 clear hK K
 try simp only [Act.put, sA, sB, sC]
 refine wpAnyT_tail (by kernel_rfl) ?_
 simp only [List.drop_succ_cons, List.drop_zero]
 obtain ⟨y0, y1, y2⟩ := hHeld
 have f3 := HF3.out
 clear f0
 go_wp2
 go_end0
 exact ⟨rfl, HP6.out, _, _, HER.out, HK6.out⟩
def ItemC (L : List Hg.Tok) (pb d : Nat) (item : Nat → Option (GT × Nat)) : Prop :=
 (∀ W k a k1, PaAt W pb L k d → item k = some (a, k1) → Calls Tryz.prog 50 #[.pointer (some ⟨pb, 0, none⟩)] W (PaRes W pb L k1 d a)) ∧ ∀ k a k1, item k = some (a, k1) → k < k1 ∧ k < L.length
theorem call1_any (pb fb d k k' : Nat) (L : List Hg.Tok) (hL : L.length ≤ 1000000) (l : List GT) (nd : Hg.Node) (md tt : List UInt8) (w W : World) (item : Nat → Option (GT × Nat)) (hT : TrBox w pb fb nd md tt W (.slice none 0 0) []) (hP : PaAt W pb L k d)
 (hi : ItemC L pb d item) (h1 : tkB L k [40] = true) (h2 : Hg.gList L item (k + 1) = some (l, k')) :
 Calls Tryz.prog 121 #[.pointer (some ⟨w.heap.size, 0, none⟩), .pointer (some ⟨fb + 1, 0, none⟩)] W fun e W' => e = .returned (.tuple #[]) ∧ PaAt W' pb L k' d ∧ ∃ v G, GT.eraL G = l ∧ TrBox w pb fb nd md tt W' v G := by
 have T1 := Lib.hid (want1 pb d L hL k [40] W W.heap.size rfl hP h1)
 have TL := Lib.hid (fun W' (hp : PaAt W' pb L (k + 1) d) (ht : TrBox w pb fb nd md tt W' (.slice none 0 0) []) => list_any pb d 122 #[.pointer (some ⟨fb + 1, 0, none⟩), .pointer (some ⟨w.heap.size, 0, none⟩)] L hL item (fun l W => ∃ v G, GT.eraL G = l ∧ TrBox w pb fb nd md tt W v G)
  (fun W => by kernel_rfl) (fun l X Y ⟨v, G, e, t⟩ hg => ⟨v, G, e, t.keep hg⟩)
  (fun l X k0 a k1 hp ⟨v, G, e, t⟩ hl hit => (call11_any pb fb d k1 L a nd md tt w X v G t (by rw [← eraL_len, e]; omega) (fun Y hb => hi.1 Y k0 a k1 (hp.keep (hb.mono hp.lt)) hit)).mono (fun e' X' ⟨he, hp', v', t', ha, ht⟩ => ⟨he, hp', v', G ++ [t'], by rw [eraL_append, e]; show l ++ [GT.era t'] = _; rw [ha], ht⟩))
  hi.2 (k + 1) k' l W' hp ⟨_, [], rfl, ht⟩ h2)
 have HT := Lib.hid hT
 obtain ⟨c0, c1, c2, f0⟩ := hT.cells
 generalize hDz : w.heap.size = b0 at c0 TL ⊢
 have HD := Lib.hid hDz
 clear hT hP hi h1 h2 hDz
 go_enter Tryz.func121, Tryz.ntmps121
 go_wp2_with fail
 refine T1.out.mono ?_
 rintro e w1 ⟨rfl, hp1, hg1⟩
 have HT1 := Lib.hid (HT.out.keep hg1)
 have HP1 := Lib.hid hp1
 clear hp1 hg1 c0 c1 c2 f0 T1
 obtain ⟨c0, c1, c2, f0⟩ := HT1.out.cells
 rw [HD.out] at c0
 go_wp2_with fail
 refine (TL.out _ HP1.out HT1.out).mono ?_
 rintro e w2 ⟨rfl, hp2, hx2⟩
 have HE := Lib.hid (And.intro hp2 hx2)
 clear hp2 hx2 TL c0 c1 c2 f0
 go_wp2
 go_end0
 exact ⟨rfl, HE.out.1, HE.out.2⟩
set_option maxHeartbeats 4000000 in
set_option maxRecDepth 100000 in
theorem call_any (pb d k k' : Nat) (L : List Hg.Tok) (hL : L.length ≤ 1000000) (mod : List UInt8) (t0 : GT) (w : World) (item : Nat → Option (GT × Nat)) (hP : PaAt w pb L k d) (hi : ItemC L pb (d + 1) item) (h : Hg.gC L item d mod k = some (t0, k')) :
 Calls Tryz.prog 83 #[.pointer (some ⟨pb, 0, none⟩), strV mod] w (PaRes w pb L k' d t0) := by
 have hlt := hP.lt
 unfold Hg.gC at h
 split at h
 ·
  next hc =>
  simp only [Bool.and_eq_true, decide_eq_true_eq] at hc
  obtain ⟨q0, q1, q2, q3, q4⟩ := hc
  cases hg : Hg.gList L item (k + 3) with
  | none => rw [hg] at h; cases h
  | some x =>
    obtain ⟨l, k2⟩ := x
    rw [hg] at h
    simp only [Option.some.injEq, Prod.mk.injEq] at h
    obtain ⟨rfl, rfl⟩ := h
    obtain ⟨g0, g1, g2, hbA, hzA⟩ := alloc3 w (.cells #[.pointer (some ⟨pb, 0, none⟩)] 38) (.cells (gtCells (Hg.ndK 19) mod [] (.slice none 0 0) (.slice none 0 0) 0) 72) (.cells #[.pointer (some ⟨w.heap.size + 1, 0, none⟩)] 41)
    have HT := Lib.hid (show TrBox w pb (w.heap.size + 1) (Hg.ndK 19) mod [] _ (.slice none 0 0) [] from ⟨below_grown50 hbA (some pb), hlt, by omega, g0, g2, KidsAt.new g1 (by omega) (by omega)⟩)
    have T1 := Lib.hid (want1 pb d L hL k [46] _ (w.heap.size + 1 + 1 + 1) (by simp) (hP.keep (hbA.mono hlt)) q0)
    have TN := Lib.hid (fun W (hp : PaAt W pb L (k + 1) d) => name_any pb (k + 1) d L W hp q1 hL q2)
    have TW := Lib.hid (fun W (hp : PaAt W pb L (k + 2) d) (ht : TrBox w pb (w.heap.size + 1) (Hg.ndK 19) mod (tkAt L (k + 1)).text W (.slice none 0 0) []) =>
     within_any pb (k + 2) k2 d 121 #[.pointer (some ⟨w.heap.size, 0, none⟩), .pointer (some ⟨w.heap.size + 1 + 1, 0, none⟩)] L (fun W => ∃ v G, GT.eraL G = l ∧ TrBox w pb (w.heap.size + 1) (Hg.ndK 19) mod (tkAt L (k + 1)).text W v G) W hp q3
      (fun X hp' hg' => call1_any pb (w.heap.size + 1) (d + 1) (k + 2) k2 L hL l (Hg.ndK 19) mod (tkAt L (k + 1)).text w X item (ht.keep hg') hp' hi q4 hg)
      (fun X u ⟨v, G, e, t⟩ => ⟨v, G, e, t.keep (grown_set (grown_refl _ _) 2 u)⟩) (fun X => by kernel_rfl))
    clear hbA hzA g0 g1 g2 hP hi q0 q1 q2 q3 q4 hg
    go_enter Tryz.func83, Tryz.ntmps83
    go_wp2_with fail
    refine T1.out.mono ?_
    generalize World.alloc (World.alloc (World.alloc w _) _) _ = W3 at HT ⊢
    rintro e w1 ⟨rfl, hp1, hg1⟩
    have HT1 := Lib.hid ((HT.out.keep hg1).keep (below_grown50 (w' := w1.drew) ((Below.refl _ _).drew) (some pb)))
    have HP1 := Lib.hid (show PaAt w1.drew pb L (k + 1) d from hp1.keep ((Below.refl _ _).drew))
    clear hp1 hg1 T1 HT
    obtain ⟨c0, c1, -, -⟩ := HT1.out.cells
    generalize hnm : (tkAt L (k + 1)).text = nm at TN TW
    have HNM := Lib.hid hnm
    clear hnm
    go_upto_region 3 with fail
    generalize hDz : w.heap.size = b0 at c0 c1 ⊢
    have HD := Lib.hid hDz
    have hHeld : (fun w' => w'.cell? ⟨b0 + 1 + 1, 0, none⟩ = some (.pointer (some ⟨b0 + 1, 0, none⟩)) ∧ w'.cell? ⟨b0, 0, none⟩ = some (.pointer (some ⟨pb, 0, none⟩))) w1.drew := ⟨c1, c0⟩
    clear c0 c1 hDz
    refine wp_region_two (fun w' => w'.cell? ⟨b0 + 1 + 1, 0, none⟩ = some (.pointer (some ⟨b0 + 1, 0, none⟩)) ∧ w'.cell? ⟨b0, 0, none⟩ = some (.pointer (some ⟨pb, 0, none⟩))) 3 (by kernel_rfl) ?_
    refine tk 0 ?_ rfl (by kernel_rfl) (fun _ _ _ h => h) ‹_› ?_ ?_ (tk 1 ?_ rfl (by kernel_rfl) (fun _ _ _ h => h) ‹_› ?_ ?_ ?_)
    all_goals try (first | rfl | ((try simp only [Act.put, sA, sB, sC]); intro w' hSw; (try dsimp only at hSw); go_simp; try with_reducible rfl))
    try simp only [Act.put, sA, sB, sC]
    refine wpAnyT_one (i := 2) rfl (by kernel_rfl) (fun K hK => ?_)
    go_simp
    refine (TN.out w1.drew HP1.out).mono ?_
    rintro e w2 ⟨rfl, hp2, hg2⟩
    have HT2 := Lib.hid (HT1.out.keep hg2)
    have HP2 := Lib.hid hp2
    have hc2 := HT2.out.cells
    rw [HD.out] at hc2
    clear hp2 hg2 TN
    refine hK.out _ _ (⟨hc2.2.1, hc2.1⟩) (fun hHeld => ?_)
    clear hK K
    try simp only [Act.put, sA, sB, sC]
    refine wpAnyT_tail (by kernel_rfl) ?_
    simp only [List.drop_succ_cons, List.drop_zero]
    have hf2 : ∀ i, w2.frozen? ⟨b0 + 1, i, none⟩ = false := by have := HT2.out.cells.2.2.2; rw [HD.out] at this; exact this
    have HT3 := Lib.hid (show TrBox w pb (w.heap.size + 1) (Hg.ndK 19) mod nm (w2.setCell ⟨b0 + 1, 7, none⟩ (strV nm)) (.slice none 0 0) [] from by rw [← HD.out]; exact HT2.out.set rfl)
    have HP3 := Lib.hid (show PaAt (w2.setCell ⟨b0 + 1, 7, none⟩ (strV nm)) pb L (k + 2) d from HP2.out.keep ((Below.refl _ _).setCell (p := ⟨b0 + 1, 7, none⟩) (show pb + 1 ≤ b0 + 1 by have := HD.out; omega) _))
    clear HT1 HP1 hc2
    have z7 := cell_of_row w2 (b0 + 1) 7 _ _ (0, 0) (by have := HT2.out.kd.hh; rw [HD.out] at this; exact this)
    simp at z7
    go_upto_region 4 with fail
    clear z7 hf2
    generalize World.setCell w2 _ _ = w3 at HT3 HP3 ⊢
    obtain ⟨e0, e1, -, -⟩ := HT3.out.cells
    rw [HD.out] at e0 e1
    go_wp2_with fail
    have TW3 := Lib.hid (TW.out _ HP3.out HT3.out)
    rw [HD.out] at TW3
    refine TW3.out.mono ?_
    rintro e w4 ⟨rfl, hp4, v, G, he, ht⟩
    have HT4 := Lib.hid ht
    have HP4 := Lib.hid hp4
    have HEA := Lib.hid he
    clear hp4 ht he TW TW3 e0 e1
    obtain ⟨e0, e1, -, -⟩ := HT4.out.cells
    rw [HD.out] at e0
    go_wp2
    go_ret
    exact ⟨GT.mk (b0 + 1) (Hg.ndK 19) mod nm G, rfl, by rw [era_mk, HEA.out, HNM.out], HT4.out.kd.tree.down (by rw [HD.out]; omega), HP4.out, HT4.out.gr⟩
 ·
  cases h
end Go.Proofs.YtoelmnamlnbdhaaGreatDoor
namespace Hg
variable {L : List Tok}
theorem gMore_adv {item : Nat → Option (GT × Nat)} (hi : ∀ k a k1, item k = some (a, k1) → k < k1 ∧ k < L.length) : ∀ n k l k2, gMore L item n k = some (l, k2) → k < k2 := by
 intro n
 induction n with
 | zero => intro k l k2 h; cases h
 | succ n ih =>
   intro k l k2 h
   unfold gMore at h
   cases hit : item k with
   | none => rw [hit] at h; cases h
   | some x =>
     obtain ⟨a, k1⟩ := x
     rw [hit] at h
     have h1 := (hi k a k1 hit).1
     dsimp only at h
     split at h
     ·
      simp only [Option.some.injEq, Prod.mk.injEq] at h; omega
     ·
      split at h
      ·
       cases hm : gMore L item n (k1 + 1) with
       | none => rw [hm] at h; cases h
       | some y =>
         obtain ⟨l', k3⟩ := y
         rw [hm] at h
         simp only [Option.some.injEq, Prod.mk.injEq] at h
         have := ih (k1 + 1) l' k3 hm
         omega
      ·
       cases h
theorem gList_adv {item : Nat → Option (GT × Nat)} (hi : ∀ k a k1, item k = some (a, k1) → k < k1 ∧ k < L.length) {k k2 : Nat} {l : List GT} (h : gList L item k = some (l, k2)) : k < k2 := by
 unfold gList at h
 split at h
 ·
  simp only [Option.some.injEq, Prod.mk.injEq] at h; omega
 ·
  exact gMore_adv hi _ _ _ _ h
theorem gC_adv {item : Nat → Option (GT × Nat)} (hi : ∀ k a k1, item k = some (a, k1) → k < k1 ∧ k < L.length) {d k k1 : Nat} {mod : Str} {t : GT} (h : gC L item d mod k = some (t, k1)) : k < k1 ∧ k < L.length := by
 unfold gC at h
 split at h
 ·
  next hc =>
  simp only [Bool.and_eq_true, decide_eq_true_eq] at hc
  cases hg : gList L item (k + 3) with
  | none => rw [hg] at h; cases h
  | some x =>
    obtain ⟨l, k2⟩ := x
    rw [hg] at h
    simp only [Option.some.injEq, Prod.mk.injEq] at h
    have := gList_adv hi hg
    exact ⟨by omega, by omega⟩
 ·
  cases h
theorem gE_inv {f d k k1 : Nat} {a : GT} (h : gE L (f + 1) d k = some (a, k1)) : k < L.length ∧
 (((tkAt L k).kind = 2 ∧ ∃ n, digit (tkAt L k).text = some n ∧ a = gmk 13 n [] [] ∧ k1 = k + 1) ∨
 (¬ (tkAt L k).kind = 2 ∧ (tkAt L k).kind = 1 ∧ k + 1 < L.length ∧ tkIs L (k + 1) [46] = true ∧ gC L (gE L f (d + 1)) d (tkAt L k).text (k + 1) = some (a, k1)) ∨
 (¬ (tkAt L k).kind = 2 ∧ (tkAt L k).kind = 1 ∧ k + 1 < L.length ∧ tkIs L (k + 1) [46] = false ∧ a = gmk 15 0 (tkAt L k).text [] ∧ k1 = k + 1) ∨
 (¬ (tkAt L k).kind = 2 ∧ ¬ (tkAt L k).kind = 1 ∧ tkIs L k wTrue = true ∧ a = gmk 14 1 [] [] ∧ k1 = k + 1) ∨
 (¬ (tkAt L k).kind = 2 ∧ ¬ (tkAt L k).kind = 1 ∧ tkIs L k wTrue = false ∧ tkIs L k wFalse = true ∧ a = gmk 14 0 [] [] ∧ k1 = k + 1) ∨
 (¬ (tkAt L k).kind = 2 ∧ ¬ (tkAt L k).kind = 1 ∧ tkIs L k wTrue = false ∧ tkIs L k wFalse = false ∧ tkIs L k wRead = false ∧ tkIs L k [33] = false ∧ tkIs L k [45] = false ∧ tkIs L k [40] = true ∧ d < 60 ∧
  ∃ x j b q, gE L f (d + 1) (k + 1) = some (x, j) ∧ j < L.length ∧ ¬ signNo (tkAt L j).text = 0 ∧ gE L f (d + 1) (j + 1) = some (b, q) ∧ tkB L q [41] = true ∧ a = gmk 18 (signNo (tkAt L j).text) [] [x, b] ∧ k1 = q + 1)) := by
 unfold gE at h
 by_cases hk : L.length ≤ k
 ·
  rw [if_pos hk] at h; cases h
 rw [if_neg hk] at h
 refine ⟨by omega, ?_⟩
 by_cases h2 : (tkAt L k).kind = 2
 ·
  rw [if_pos h2] at h
  refine .inl ⟨h2, ?_⟩
  cases hd : digit (tkAt L k).text with
  | none => rw [hd] at h; cases h
  | some n =>
    rw [hd] at h
    injection h with h
    injection h with h3 h4
    exact ⟨n, rfl, h3.symm, h4.symm⟩
 rw [if_neg h2] at h
 refine .inr ?_
 by_cases h1 : (tkAt L k).kind = 1
 ·
  rw [if_pos h1] at h
  by_cases hk1 : L.length ≤ k + 1
  ·
   rw [if_pos hk1] at h; cases h
  rw [if_neg hk1] at h
  by_cases hd : tkIs L (k + 1) [46] = true
  ·
   rw [if_pos hd] at h
   exact .inl ⟨h2, h1, by omega, hd, h⟩
  ·
   rw [if_neg hd] at h
   injection h with h
   injection h with h3 h4
   exact .inr (.inl ⟨h2, h1, by omega, by simpa using hd, h3.symm, h4.symm⟩)
 rw [if_neg h1] at h
 refine .inr (.inr ?_)
 by_cases n1 : tkIs L k wTrue = true
 ·
  rw [if_pos n1] at h
  injection h with h
  injection h with h3 h4
  exact .inl ⟨h2, h1, n1, h3.symm, h4.symm⟩
 rw [if_neg n1] at h
 refine .inr ?_
 by_cases n2 : tkIs L k wFalse = true
 ·
  rw [if_pos n2] at h
  injection h with h
  injection h with h3 h4
  exact .inl ⟨h2, h1, by simpa using n1, n2, h3.symm, h4.symm⟩
 rw [if_neg n2] at h
 refine .inr ?_
 by_cases n3 : tkIs L k wRead = true
 ·
  rw [if_pos n3] at h; cases h
 rw [if_neg n3] at h
 by_cases n4 : tkIs L k [33] = true
 ·
  rw [if_pos n4] at h; cases h
 rw [if_neg n4] at h
 by_cases n5 : tkIs L k [45] = true
 ·
  rw [if_pos n5] at h; cases h
 rw [if_neg n5] at h
 by_cases n6 : tkIs L k [40] = true
 ·
  rw [if_pos n6] at h
  by_cases hd : d < 60
  ·
   rw [if_pos hd] at h
   refine ⟨h2, h1, by simpa using n1, by simpa using n2, by simpa using n3, by simpa using n4, by simpa using n5, n6, hd, ?_⟩
   cases e1 : gE L f (d + 1) (k + 1) with
   | none => rw [e1] at h; cases h
   | some y =>
     obtain ⟨x, j⟩ := y
     rw [e1] at h
     dsimp only at h
     by_cases hj : L.length ≤ j
     ·
      rw [if_pos hj] at h; cases h
     rw [if_neg hj] at h
     by_cases hs : signNo (tkAt L j).text = 0
     ·
      rw [if_pos hs] at h; cases h
     rw [if_neg hs] at h
     cases e2 : gE L f (d + 1) (j + 1) with
     | none => rw [e2] at h; cases h
     | some y =>
       obtain ⟨b, q⟩ := y
       rw [e2] at h
       dsimp only at h
       by_cases h4 : tkB L q [41] = true
       ·
        rw [if_pos h4] at h
        injection h with h
        injection h with h5 h6
        exact ⟨x, j, b, q, rfl, by omega, hs, e2, h4, h5.symm, h6.symm⟩
       ·
        rw [if_neg h4] at h; cases h
  ·
   rw [if_neg hd] at h; cases h
 ·
  rw [if_neg n6] at h; cases h
theorem gE_adv : ∀ f d k a k1, gE L f d k = some (a, k1) → k < k1 ∧ k < L.length := by
 intro f
 induction f with
 | zero => intro d k a k1 h; cases h
 | succ f ih =>
   intro d k a k1 h
   obtain ⟨hk, h⟩ := gE_inv h
   refine ⟨?_, hk⟩
   rcases h with ⟨_, n, _, _, h⟩ | ⟨_, _, _, _, h⟩ | ⟨_, _, _, _, _, h⟩ | ⟨_, _, _, _, h⟩ | ⟨_, _, _, _, _, h⟩ | ⟨_, _, _, _, _, _, _, _, _, x, j, b, q, e1, _, _, e2, _, _, h⟩
   ·
    omega
   ·
    have := gC_adv (fun k a k1 => ih (d + 1) k a k1) h; omega
   ·
    omega
   ·
    omega
   ·
    omega
   ·
    have := (ih _ _ _ _ e1).1; have := (ih _ _ _ _ e2).1; omega
end Hg
namespace Go.Proofs.YtoelmnamlnbdhaaGreatDoor
open Go.RowKit
open Hg (GT tkAt tkIs tkAt_get tkB tkB_lt tkB_is)
theorem gE_item (L : List Hg.Tok) (pb f d : Nat) (h : ∀ W k a k1, PaAt W pb L k d → Hg.gE L f d k = some (a, k1) → Calls Tryz.prog 50 #[.pointer (some ⟨pb, 0, none⟩)] W (PaRes W pb L k1 d a)) : ItemC L pb d (Hg.gE L f d) :=
 ⟨h, fun k a k1 => Hg.gE_adv f d k a k1⟩
theorem own_made {W : World} {cs : Array Value} {e : TypeId} {lo n : Nat} {xs : List Value} (hlo : lo ≤ W.heap.size) (hcs : cs.toList = xs) (hn : xs.length = n) (hm : n ≤ maxLen) : (W.alloc (.cells cs e)).ownsRow lo e 1 (.slice (some ⟨W.heap.size, 0, none⟩) n n) n xs :=
 ⟨by omega, .inr ⟨W.heap.size, n, cs, rfl, hlo, heap_alloc_new W _, Nat.le_refl _, hm, by rw [← Array.length_toList, hcs]; omega, by rw [hcs, List.take_of_length_le (by omega)]⟩⟩
section
variable {W W' : World} {b lo r : Nat} {nd : Hg.Node} {md tt : List UInt8} {l : List GT}
theorem KidsAt.lit {n : Nat} {cs : Array Value} {W4 : World} (h : KidsAt W b lo nd md tt (.slice none 0 0) []) (F : ForestX (fun _ => False) lo W l) (ha : W.alloc (.cells cs 41) = W4) (hcs : cs.toList = l.map ptrV) (hn : l.length = n) (hm : n ≤ maxLen) :
 KidsAt (W4.setCell ⟨b, 8, none⟩ (.slice (some ⟨W.heap.size, 0, none⟩) n n)) b lo nd md tt (.slice (some ⟨W.heap.size, 0, none⟩) n n) l := by
 subst ha
 have hlt := h.lt
 have hlo := h.gt
 have hsz := h.sz
 have hb : Below W.heap.size W (W.alloc (.cells cs 41)) := (Below.refl _ _).alloc (Nat.le_refl _) _
 have hF : ForestX (fun q => (Value.slice (some ⟨W.heap.size, 0, none⟩) n n).ownBlock = some q) lo (W.alloc (.cells cs 41)) l :=
  (F.fresh (X' := fun q => (Value.slice (some ⟨W.heap.size, 0, none⟩) n n).ownBlock = some q) (Nat.le_refl _) (fun q hq => .inr (.inr (by injection hq with hq; have hq : W.heap.size = q := hq; omega)))).keep (below_grown50 hb none) (fun q e => by cases e)
 have hgs := grown_set (grown_refl (W.alloc (.cells cs 41)) (some b)) 8 (.slice (some ⟨W.heap.size, 0, none⟩) n n)
 refine ⟨heap_setCell_same ((heap_alloc_old W _ hlt).trans h.hh) _, hlo, by simp; omega, ?_, hF.keep hgs (fun q e => by injection e with e; exact .inl (by omega))⟩
 have own : (W.alloc (.cells cs 41)).ownsRow lo 41 1 (.slice (some ⟨W.heap.size, 0, none⟩) n n) l.length (l.map ptrV) := by
  rw [hn]
  exact own_made hsz hcs (by simpa using hn) hm
 exact own.kept hgs (.inr (fun e => by injection e with e; have e : W.heap.size = b := e; omega))
end
section
variable {w W W' : World} {pb fb : Nat} {nd : Hg.Node} {md tt : List UInt8} {l : List GT}
theorem TrBox.lit {n : Nat} {cs : Array Value} {W4 : World} (h : TrBox w pb fb nd md tt W (.slice none 0 0) []) (F : ForestX (fun _ => False) (fb + 2) W l) (ha : W.alloc (.cells cs 41) = W4) (hcs : cs.toList = l.map ptrV) (hn : l.length = n) (hm : n ≤ maxLen) :
 TrBox w pb fb nd md tt (W4.setCell ⟨fb, 8, none⟩ (.slice (some ⟨W.heap.size, 0, none⟩) n n)) (.slice (some ⟨W.heap.size, 0, none⟩) n n) l := by
 have h1 := h.lt
 have h2 := h.gf
 have hz := h.kd.sz
 have hk := h.kd.lit F ha hcs hn hm
 subst ha
 have go : ∀ i o, i ≠ fb → i < fb + 2 → W.heap[i]? = some o → ((W.alloc (.cells cs 41)).setCell ⟨fb, 8, none⟩ (.slice (some ⟨W.heap.size, 0, none⟩) n n)).heap[i]? = some o := fun i o hi hl ho =>
  (Below.heap_setCell _ ⟨fb, 8, none⟩ _ i (by show ¬ i = fb; omega)).trans ((heap_alloc_old W _ (by omega)).trans ho)
 have hg : w.grownBy (W.alloc (.cells cs 41)) (some pb) := grown_trans h.gr (World.grownBy_alloc W _ _)
 exact ⟨grown_set_new hg (p := ⟨fb, 8, none⟩) (by show w.heap.size ≤ fb; omega) _, h1, h2, go _ _ (by omega) (by omega) h.box, go _ _ (by omega) (by omega) h.fp, hk⟩
end
end Go.Proofs.YtoelmnamlnbdhaaGreatDoor
namespace Go.Proofs.YtoelmnamlnbdhaaGreatDoor
open Go.RowKit
open Hg (GT tkAt tkIs tkAt_get tkB tkB_lt tkB_is)
def gsL : List UInt8 := [43, 32, 45, 32, 42, 32, 47, 32, 37, 32, 60, 32, 60, 61, 32, 62, 32, 62, 61, 32, 61, 61, 32, 33, 61, 32, 38, 38, 32, 124, 124]
theorem gs_fields : Go.Lib.fields gsL = Hg.signs13 := by decide +kernel
theorem gs_low : gsL.all (fun b => decide (b.toNat < 128)) = true := by decide +kernel
theorem signNo_idx (s : List UInt8) : idxS Hg.signs13 s + 1 = ((Hg.signNo s : Nat) : Int) ∧ Hg.signNo s ≤ 13 := by
 unfold idxS Hg.signNo
 cases h : Hg.signs13.findIdx? (· == s) with
 | none => exact ⟨rfl, by decide⟩
 | some k =>
   have := (List.findIdx?_eq_some_iff_findIdx_eq.1 h).1
   have h13 : Hg.signs13.length = 13 := rfl
   exact ⟨by simp, by dsimp only; omega⟩
set_option maxRecDepth 100000 in
theorem op_any (s : List UInt8) (w : World) (hT : TabOk w) :
 Calls Tryz.prog 89 #[strV s] w fun e w' => e = .returned (.int .i64 (Hg.signNo s : Int)) ∧ Below w.heap.size w w' := by
 obtain ⟨hq, hb13⟩ := signNo_idx s
 have TF := Lib.hid (fieldsT gsL Hg.signs13 gs_fields gs_low (by decide) w hT)
 have TI := Lib.hid (fun W a (hs : Sl W W.heap.size (.slice (some a) 13 13) 13 (Hg.signs13.map strV)) => indexS_any _ _ Hg.signs13 s W hs (by decide))
 generalize idxS Hg.signs13 s = q at TI hq
 generalize Hg.signNo s = n at hq hb13 ⊢
 have hw1 : IntKind.i64.wrap (q + 1) = (n : Int) := by rw [hq]; exact IntWalk.i64_in _ (by omega)
 clear hT hq
 go_enter Tryz.func89, Tryz.ntmps89
 go_wp2_with fail
 refine TF.out.mono ?_
 rintro e w1 ⟨a, rfl, hs, hb⟩
 have TI1 := Lib.hid (TI.out _ _ hs)
 clear TI TF hs
 go_wp2_with fail
 refine TI1.out.mono ?_
 rintro e w' ⟨rfl, rfl⟩
 go_wp2
 go_ret
 exact ⟨rfl, hb⟩
theorem PaAt.fine {w : World} {pb k d : Nat} {L : List Hg.Tok} (h : PaAt w pb L k d) : PaAt (w.setCell ⟨pb, 3, none⟩ (.bool false)) pb L k d := by
 obtain ⟨⟨ht, hp⟩, a, c, h, hs⟩ := h
 exact ⟨⟨ht.block (Below.heap_setCell w ⟨pb, 3, none⟩ _ _ (by show ¬ 0 = pb; omega)), hp⟩, a, c, heap_setCell_same h _, hs.setCell (Nat.le_refl _) _⟩
section
variable {w W : World} {pb fb k d lo : Nat} {nd : Hg.Node} {md tt : List UInt8} {v : Value} {G l : List GT} {L : List Hg.Tok} {X : Nat → Prop}
theorem TrBox.drew (h : TrBox w pb fb nd md tt W v G) : TrBox w pb fb nd md tt W.drew v G := h.keep (below_grown50 ((Below.refl _ _).drew) (some pb))
theorem PaAt.drew (h : PaAt W pb L k d) : PaAt W.drew pb L k d := h.keep ((Below.refl _ _).drew)
theorem ForestX.below {W' : World} (h : ForestX X lo W l) (hb : Below W.heap.size W W') : ForestX X lo W' l := h.keep (row := none) (below_grown50 hb none) (fun q e => by cases e)
theorem ForestX.drew (h : ForestX X lo W l) : ForestX X lo W.drew l := h.below ((Below.refl _ _).drew)
theorem ForestX.field {b : Nat} (h : ForestX X lo W l) (hb : b < lo) (i : Nat) (u : Value) : ForestX X lo (W.setCell ⟨b, i, none⟩ u) l := h.keep (row := some b) (grown_set (grown_refl _ _) i u) (fun q e => by injection e with e; exact .inl (by omega))
theorem PaAt.field {b : Nat} (h : PaAt W pb L k d) (hb : pb < b) (i : Nat) (u : Value) : PaAt (W.setCell ⟨b, i, none⟩ u) pb L k d := h.keep ((Below.refl _ _).setCell (p := ⟨b, i, none⟩) (show pb + 1 ≤ b by omega) _)
theorem TrBox.pfield (h : TrBox w pb fb nd md tt W v G) (i : Nat) (u : Value) : TrBox w pb fb nd md tt (W.setCell ⟨pb, i, none⟩ u) v G := h.keep (grown_set (grown_refl _ _) i u)
end
theorem tok_field1 (a0 a1 a2 : Value) (w : World) : (Instr.field 65 (.agg #[a0, a1, a2]) 1).run Tryz.prog w = .ok a1 w := by kernel_rfl
attribute [simp, go_sem] tok_field1
def binNode (n : Nat) : Hg.Node := ⟨18, [], (n : Int), 0, 0, []⟩
set_option maxHeartbeats 4000000 in
set_option maxRecDepth 100000 in
theorem expr3_any (pb fb d k k1 k2 sn : Nat) (L : List Hg.Tok) (hL : L.length ≤ 1000000) (a b : GT) (w W : World) (item : Nat → Option (GT × Nat)) (hT : TrBox w pb fb (Hg.ndK 18) [] [] W (.slice none 0 0) []) (hP : PaAt W pb L k d) (hi : ItemC L pb d item)
 (h1 : item k = some (a, k1)) (hk1 : k1 < L.length) (hsn : Hg.signNo (tkAt L k1).text = sn) (hs0 : ¬ sn = 0) (h2 : item (k1 + 1) = some (b, k2)) (h3 : tkB L k2 [41] = true) :
 Calls Tryz.prog 88 #[.pointer (some ⟨w.heap.size, 0, none⟩), .pointer (some ⟨fb + 1, 0, none⟩)] W fun e W' => e = .returned (.tuple #[]) ∧ PaAt W' pb L (k2 + 1) d ∧ ∃ v G, GT.eraL G = [a, b] ∧ TrBox w pb fb (binNode sn) [] [] W' v G := by
 have hgf := hT.gf
 have hlw := hT.lt
 have FZ := hT.kd.sz
 have TE1 := Lib.hid (hi.1 W k a k1 hP h1)
 have TN := Lib.hid (fun X (hp : PaAt X pb L k1 d) => now_any pb k1 d L X hp hk1 hL)
 have TO := Lib.hid (fun X (hp : PaAt X pb L k1 d) => op_any (tkAt L k1).text X hp.tab)
 rw [hsn] at TO
 generalize tkAt L k1 = t at TN TO hsn
 have TE2 := Lib.hid (fun X (hp : PaAt X pb L (k1 + 1) d) => hi.1 X (k1 + 1) b k2 hp h2)
 have TW := Lib.hid (fun X (hp : PaAt X pb L k2 d) => want1 pb d L hL k2 [41] X X.heap.size rfl hp h3)
 have hw1 : IntKind.i64.wrap ((k1 : Int) + 1) = (k1 : Int) + 1 := IntWalk.i64_in _ (by omega)
 have hsq : ((sn : Int) == 0) = false := by simpa using (show ¬ (sn : Int) = 0 by omega)
 have HT := Lib.hid hT
 obtain ⟨c0, c1, -, -⟩ := hT.cells
 generalize hDz : w.heap.size = b0 at c0 hgf hlw ⊢
 have HD := Lib.hid hDz
 clear hT hP hi h1 hk1 hsn hs0 h2 h3 hDz
 go_enter Tryz.func88, Tryz.ntmps88
 go_wp2_with fail
 refine TE1.out.mono ?_
 rintro e w1 ⟨ta, rfl, hera, hF1, hp1, hg1⟩
 have HERA := Lib.hid hera
 have HT1 := Lib.hid (HT.out.keep hg1).drew
 have HP1 := Lib.hid hp1.drew
 have HF1 := Lib.hid (hF1.down FZ).drew
 clear hera hF1 hp1 hg1 TE1 HT c0 c1
 obtain ⟨c0, c1, -, -⟩ := HT1.out.cells
 rw [HD.out] at c0
 go_upto_region 1 with fail
 have hHeld : (fun w' => w'.cell? ⟨fb + 1, 0, none⟩ = some (.pointer (some ⟨fb, 0, none⟩)) ∧ w'.cell? ⟨b0, 0, none⟩ = some (.pointer (some ⟨pb, 0, none⟩))) w1.drew := ⟨c1, c0⟩
 clear c0 c1
 refine wp_region_two (fun w' => w'.cell? ⟨fb + 1, 0, none⟩ = some (.pointer (some ⟨fb, 0, none⟩)) ∧ w'.cell? ⟨b0, 0, none⟩ = some (.pointer (some ⟨pb, 0, none⟩))) 8 (by kernel_rfl) ?_
 refine tk 0 ?_ rfl (by kernel_rfl) (fun _ _ _ h => h) ‹_› (by rfl) ?_ ?_
 rotate_left
 · (intro w' hSw; (try dsimp only at hSw); go_simp; try with_reducible rfl)
 try simp only [Act.put, sA, sB, sC, sD, sE, sF]
 refine tk 1 ?_ rfl (by kernel_rfl) (fun _ _ _ h => h) ‹_› (by rfl) ?_ ?_
 rotate_left
 · (intro w' hSw; (try dsimp only at hSw); go_simp; try with_reducible rfl)
 try simp only [Act.put, sA, sB, sC, sD, sE, sF]
 refine wpAnyT_one (i := 2) rfl (by kernel_rfl) (fun K hK => ?_)
 go_simp
 refine (TN.out w1.drew HP1.out).mono ?_
 rintro e w2 ⟨rfl, hb2⟩
 have HT2 := Lib.hid (HT1.out.keep (below_grown50 hb2 (some pb)))
 have HP2 := Lib.hid (HP1.out.keep (hb2.mono HP1.out.lt))
 have HF2 := Lib.hid (HF1.out.below hb2)
 have hc2 := HT2.out.cells
 rw [HD.out] at hc2
 clear hb2 TN HT1 HP1 HF1
 refine hK.out _ _ (⟨hc2.2.1, hc2.1⟩) (fun hHeld => ?_)
 clear hK K
 try simp only [Act.put, sA, sB, sC, sD, sE, sF]
 refine tk 3 ?_ rfl (by kernel_rfl) (fun _ _ _ h => h) ‹_› (by rfl) ?_ ?_
 rotate_left
 · (intro w' hSw; (try dsimp only at hSw); go_simp; try with_reducible rfl)
 try simp only [Act.put, sA, sB, sC, sD, sE, sF]
 refine wpAnyT_one (i := 4) rfl (by kernel_rfl) (fun K hK => ?_)
 go_simp
 refine (TO.out w2 HP2.out).mono ?_
 rintro e w3 ⟨rfl, hb3⟩
 have HT3 := Lib.hid (HT2.out.keep (below_grown50 hb3 (some pb)))
 have HP3 := Lib.hid (HP2.out.keep (hb3.mono HP2.out.lt))
 have HF3 := Lib.hid (HF2.out.below hb3)
 have hc3 := HT3.out.cells
 rw [HD.out] at hc3
 clear hb3 TO HT2 HP2 HF2 hc2
 refine hK.out _ _ (⟨hc3.2.1, hc3.1⟩) (fun hHeld => ?_)
 clear hK K
 try simp only [Act.put, sA, sB, sC, sD, sE, sF]
 refine tk 5 ?_ rfl (by kernel_rfl) (fun _ _ _ h => h) ‹_› (by rfl) ?_ ?_
 rotate_left
 · (intro w' hSw; (try dsimp only at hSw); go_simp; try with_reducible rfl)
 try simp only [Act.put, sA, sB, sC, sD, sE, sF]
 refine tk 6 ?_ rfl (by kernel_rfl) (fun _ _ _ h => h) ‹_› (by rfl) ?_ ?_
 rotate_left
 · (intro w' hSw; (try dsimp only at hSw); go_simp; try with_reducible rfl)
 try simp only [Act.put, sA, sB, sC, sD, sE, sF]
 refine tk 7 ?_ rfl (by kernel_rfl) (fun _ _ _ h => h) ‹_› (by rfl) ?_ ?_
 rotate_left
 · (intro w' hSw; (try dsimp only at hSw); go_simp; try with_reducible rfl)
 try simp only [Act.put, sA, sB, sC, sD, sE, sF]
 refine wpAnyT_tail (by kernel_rfl) ?_
 simp only [List.drop_succ_cons, List.drop_zero]
 have hf3 := HT3.out.cells.2.2.2
 have z2 := cell_of_row w3 fb 2 _ _ (0, 0) HT3.out.kd.hh
 simp at z2
 have HT4 := Lib.hid (show TrBox w pb fb (binNode sn) [] [] (w3.setCell ⟨fb, 2, none⟩ (.int .i64 (sn : Int))) (.slice none 0 0) [] from HT3.out.set rfl)
 have HP4 := Lib.hid (show PaAt (w3.setCell ⟨fb, 2, none⟩ (.int .i64 (sn : Int))) pb L k1 d from HP3.out.field (by omega) 2 _)
 have HF4 := Lib.hid (show ForestIn (fb + 2) (w3.setCell ⟨fb, 2, none⟩ (.int .i64 (sn : Int))) [ta] from HF3.out.field (by omega) 2 _)
 clear hc3 HT3 HP3 HF3
 go_upto_region 2 with fail
 clear z2 hf3 hHeld
 generalize World.setCell w3 _ _ = w4 at HT4 HP4 HF4 ⊢
 obtain ⟨c0, c1, -, -⟩ := HT4.out.cells
 rw [HD.out] at c0
 obtain ⟨pa, pc, p0, p1, p2, p3, f0, hsl⟩ := HP4.out.read
 clear hsl
 have hpl := HP4.out.lt
 have HT5 := Lib.hid (show TrBox w pb fb (binNode sn) [] [] (w4.setCell ⟨pb, 1, none⟩ (.int .i64 ((k1 + 1 : Nat) : Int))) (.slice none 0 0) [] from HT4.out.pfield 1 _)
 have HP5 := Lib.hid (show PaAt (w4.setCell ⟨pb, 1, none⟩ (.int .i64 ((k1 + 1 : Nat) : Int))) pb L (k1 + 1) d from HP4.out.set)
 have HF5 := Lib.hid (show ForestIn (fb + 2) (w4.setCell ⟨pb, 1, none⟩ (.int .i64 ((k1 + 1 : Nat) : Int))) [ta] from HF4.out.field (by omega) 1 _)
 clear HT4 HP4 HF4
 push_cast at HT5 HP5 HF5
 go_upto_region 3 with fail
 clear c0 c1 p0 p1 p2 p3 f0 hpl
 generalize World.setCell w4 _ _ = w5 at HT5 HP5 HF5 ⊢
 obtain ⟨c0, c1, -, -⟩ := HT5.out.cells
 rw [HD.out] at c0
 obtain ⟨pa, pc, p0, p1, p2, p3, f0, hsl⟩ := HP5.out.read
 clear hsl
 have z2 := cell_of_row w5 fb 2 _ _ (0, 0) HT5.out.kd.hh
 simp [binNode] at z2
 have hpl := HP5.out.lt
 have hHeld : (fun w' => w'.cell? ⟨fb + 1, 0, none⟩ = some (.pointer (some ⟨fb, 0, none⟩)) ∧ w'.cell? ⟨b0, 0, none⟩ = some (.pointer (some ⟨pb, 0, none⟩)) ∧ w'.cell? ⟨pb, 3, none⟩ = some (.bool false) ∧ w'.cell? ⟨fb, 2, none⟩ = some (.int .i64 (sn : Int))) w5.drew := ⟨c1, c0, p3, z2⟩
 refine wp_region_two (fun w' => w'.cell? ⟨fb + 1, 0, none⟩ = some (.pointer (some ⟨fb, 0, none⟩)) ∧ w'.cell? ⟨b0, 0, none⟩ = some (.pointer (some ⟨pb, 0, none⟩)) ∧ w'.cell? ⟨pb, 3, none⟩ = some (.bool false) ∧ w'.cell? ⟨fb, 2, none⟩ = some (.int .i64 (sn : Int))) 15 (by kernel_rfl) ?_
 refine tk 0 ?_ rfl (by kernel_rfl) (fun _ _ _ h => h) ‹_› (by rfl) ?_ ?_
 rotate_left
 · (intro w' hSw; (try dsimp only at hSw); go_simp; try with_reducible rfl)
 try simp only [Act.put, sA, sB, sC, sD, sE, sF]
 refine tk 1 ?_ rfl (by kernel_rfl) (fun _ _ _ h => h) ‹_› (by rfl) ?_ ?_
 rotate_left
 · (intro w' hSw; (try dsimp only at hSw); go_simp; try with_reducible rfl)
 try simp only [Act.put, sA, sB, sC, sD, sE, sF]
 refine tk 2 ?_ rfl (by kernel_rfl) (fun _ _ _ h => h) ‹_› (by rfl) ?_ ?_
 rotate_left
 · (intro w' hSw; (try dsimp only at hSw); go_simp; try with_reducible rfl)
 try simp only [Act.put, sA, sB, sC, sD, sE, sF]
 refine tk 3 ?_ rfl (by kernel_rfl) (fun _ _ _ h => h) ‹_› (by rfl) ?_ ?_
 rotate_left
 · (intro w' hSw; (try dsimp only at hSw); go_simp; try with_reducible rfl)
 try simp only [Act.put, sA, sB, sC, sD, sE, sF]
 refine tk 4 ?_ rfl (by kernel_rfl) (fun _ _ _ h => h) ‹_› (by rfl) ?_ ?_
 rotate_left
 · (intro w' hSw; (try dsimp only at hSw); go_simp; try with_reducible rfl)
 try simp only [Act.put, sA, sB, sC, sD, sE, sF]
 refine tk 5 ?_ rfl (by kernel_rfl) (fun _ _ _ h => h) ‹_› (by rfl) ?_ ?_
 rotate_left
 · (intro w' hSw; (try dsimp only at hSw); go_simp; try with_reducible rfl)
 try simp only [Act.put, sA, sB, sC, sD, sE, sF]
 refine tk 6 ?_ rfl (by kernel_rfl) (fun _ _ _ h => h) ‹_› (by rfl) ?_ ?_
 rotate_left
 · (intro w' hSw; (try dsimp only at hSw); go_simp; try with_reducible rfl)
 try simp only [Act.put, sA, sB, sC, sD, sE, sF]
 refine tk 7 ?_ rfl (by kernel_rfl) (fun _ _ _ h => h) ‹_› (by rfl) ?_ ?_
 rotate_left
 · (intro w' hSw; (try dsimp only at hSw); go_simp; try with_reducible rfl)
 try simp only [Act.put, sA, sB, sC, sD, sE, sF]
 refine tk 8 ?_ rfl (by kernel_rfl) (fun _ _ _ h => h) ‹_› (by rfl) ?_ ?_
 rotate_left
 · (intro w' hSw; (try dsimp only at hSw); go_simp; try with_reducible rfl)
 try simp only [Act.put, sA, sB, sC, sD, sE, sF]
 refine tk 9 ?_ rfl (by kernel_rfl) (fun _ _ _ h => h) ‹_› (by rfl) ?_ ?_
 rotate_left
 · (intro w' hSw; (try dsimp only at hSw); go_simp; try with_reducible rfl)
 try simp only [Act.put, sA, sB, sC, sD, sE, sF]
 refine tk 10 ?_ rfl (by kernel_rfl) (fun _ _ _ h => h) ‹_› (by rfl) ?_ ?_
 rotate_left
 · (intro w' hSw; (try dsimp only at hSw); go_simp; try with_reducible rfl)
 try simp only [Act.put, sA, sB, sC, sD, sE, sF]
 refine tk 11 ?_ rfl (by kernel_rfl) (fun _ _ _ h => h) ‹_› (by rfl) ?_ ?_
 rotate_left
 · (intro w' hSw; (try dsimp only at hSw); go_simp; try with_reducible rfl)
 try simp only [Act.put, sA, sB, sC, sD, sE, sF]
 refine tk 12 ?_ rfl (by kernel_rfl) (fun _ _ _ h => h) ‹_› (by rfl) ?_ ?_
 rotate_left
 · (intro w' hSw; (try dsimp only at hSw); go_simp; try with_reducible rfl)
 try simp only [Act.put, sA, sB, sC, sD, sE, sF]
 refine tk 13 ?_ rfl (by kernel_rfl) (fun _ _ _ h => h) ‹_› (by rfl) ?_ ?_
 rotate_left
 · (intro w' hSw; (try dsimp only at hSw); go_simp; try with_reducible rfl)
 try simp only [Act.put, sA, sB, sC, sD, sE, sF]
 refine tk 14 ?_ rfl (by kernel_rfl) (fun _ _ _ h => h) ‹_› (by rfl) ?_ ?_
 rotate_left
 · (intro w' hSw; (try dsimp only at hSw); go_simp; try with_reducible rfl)
 try simp only [Act.put, sA, sB, sC, sD, sE, sF]
 refine wpAnyT_tail (by kernel_rfl) ?_
 simp only [List.drop_succ_cons, List.drop_zero]
 have HT6 := Lib.hid (show TrBox w pb fb (binNode sn) [] [] (w5.setCell ⟨pb, 3, none⟩ (.bool false)) (.slice none 0 0) [] from HT5.out.pfield 3 _)
 have HP6 := Lib.hid (show PaAt (w5.setCell ⟨pb, 3, none⟩ (.bool false)) pb L (k1 + 1) d from HP5.out.fine)
 have HF6 := Lib.hid (show ForestIn (fb + 2) (w5.setCell ⟨pb, 3, none⟩ (.bool false)) [ta] from HF5.out.field (by omega) 3 _)
 clear HT5 HP5 HF5
 go_upto_region 4 with fail
 clear c0 c1 p0 p1 p2 p3 f0 hpl hHeld z2
 generalize World.setCell w5 _ _ = w6 at HT6 HP6 HF6 ⊢
 have HT6 := Lib.hid HT6.out.drew.drew
 have HP6 := Lib.hid HP6.out.drew.drew
 have HF6 := Lib.hid HF6.out.drew.drew
 obtain ⟨c0, c1, -, -⟩ := HT6.out.cells
 rw [HD.out] at c0
 have hHeld : (fun w' => w'.cell? ⟨fb + 1, 0, none⟩ = some (.pointer (some ⟨fb, 0, none⟩)) ∧ w'.cell? ⟨b0, 0, none⟩ = some (.pointer (some ⟨pb, 0, none⟩))) w6.drew.drew := ⟨c1, c0⟩
 clear c0 c1
 refine wp_region_two (fun w' => w'.cell? ⟨fb + 1, 0, none⟩ = some (.pointer (some ⟨fb, 0, none⟩)) ∧ w'.cell? ⟨b0, 0, none⟩ = some (.pointer (some ⟨pb, 0, none⟩))) 7 (by kernel_rfl) ?_
 refine tk 0 ?_ rfl (by kernel_rfl) (fun _ _ _ h => h) ‹_› (by rfl) ?_ ?_
 rotate_left
 · (intro w' hSw; (try dsimp only at hSw); go_simp; try with_reducible rfl)
 try simp only [Act.put, sA, sB, sC, sD, sE, sF]
 refine tk 1 ?_ rfl (by kernel_rfl) (fun _ _ _ h => h) ‹_› (by rfl) ?_ ?_
 rotate_left
 · (intro w' hSw; (try dsimp only at hSw); go_simp; try with_reducible rfl)
 try simp only [Act.put, sA, sB, sC, sD, sE, sF]
 refine tk 2 ?_ rfl (by kernel_rfl) (fun _ _ _ h => h) ‹_› (by rfl) ?_ ?_
 rotate_left
 · (intro w' hSw; (try dsimp only at hSw); go_simp; try with_reducible rfl)
 try simp only [Act.put, sA, sB, sC, sD, sE, sF]
 refine wpAnyT_one (i := 3) rfl (by kernel_rfl) (fun K hK => ?_)
 go_simp
 refine (TE2.out w6.drew.drew HP6.out).mono ?_
 rintro e w7 ⟨tb, rfl, herb, hF7, hp7, hg7⟩
 have HERB := Lib.hid herb
 have HF7 := Lib.hid (HF6.out.add hg7 (by omega) HT6.out.kd.sz hF7)
 have HT7 := Lib.hid (HT6.out.keep hg7)
 have HP7 := Lib.hid hp7
 have hc7 := HT7.out.cells
 rw [HD.out] at hc7
 clear herb hF7 hp7 hg7 TE2 HT6 HP6 HF6
 refine hK.out _ _ (⟨hc7.2.1, hc7.1⟩) (fun hHeld => ?_)
 clear hK K
 try simp only [Act.put, sA, sB, sC, sD, sE, sF]
 refine wpAnyT_one (i := 4) rfl (by kernel_rfl) (fun K hK => ?_)
 go_simp
 generalize hWa : World.alloc _ _ = Wa
 have HT8 := Lib.hid (TrBox.lit (n := 2) HT7.out (l := [ta, tb]) HF7.out hWa rfl rfl (by decide))
 obtain ⟨hBa, hha, hza⟩ := new_alloc hWa
 have HTa := Lib.hid (HT7.out.keep (below_grown50 hBa (some pb)))
 have HPa := Lib.hid (HP7.out.keep (hBa.mono HP7.out.lt))
 have hca := HTa.out.cells
 rw [HD.out] at hca
 clear hha hza hWa hBa hc7
 refine hK.out _ _ (⟨hca.2.1, hca.1⟩) (fun hHeld => ?_)
 clear hK K
 try simp only [Act.put, sA, sB, sC, sD, sE, sF]
 refine tk 5 ?_ rfl (by kernel_rfl) (fun _ _ _ h => h) ‹_› (by rfl) ?_ ?_
 rotate_left
 · (intro w' hSw; (try dsimp only at hSw); go_simp; try with_reducible rfl)
 try simp only [Act.put, sA, sB, sC, sD, sE, sF]
 refine tk 6 ?_ rfl (by kernel_rfl) (fun _ _ _ h => h) ‹_› (by rfl) ?_ ?_
 rotate_left
 · (intro w' hSw; (try dsimp only at hSw); go_simp; try with_reducible rfl)
 try simp only [Act.put, sA, sB, sC, sD, sE, sF]
 refine wpAnyT_tail (by kernel_rfl) ?_
 simp only [List.drop_succ_cons, List.drop_zero]
 have hfa := HTa.out.cells.2.2.2
 have z8 := HTa.out.cells.2.2.1
 have HP8 := Lib.hid (show PaAt (Wa.setCell ⟨fb, 8, none⟩ (.slice (some ⟨w7.heap.size, 0, none⟩) 2 2)) pb L k2 d from HPa.out.field (by omega) 8 _)
 clear hca HTa HPa
 go_upto_region 5 with fail
 clear z8 hfa hHeld
 generalize World.setCell Wa _ _ = w8 at HT8 HP8 ⊢
 obtain ⟨c0, c1, -, -⟩ := HT8.out.cells
 rw [HD.out] at c0
 go_wp2_with fail
 refine (TW.out _ HP8.out).mono ?_
 rintro e w9 ⟨rfl, hp9, hg9⟩
 have HE := Lib.hid (And.intro hp9 (HT8.out.keep hg9))
 clear hp9 hg9 TW HT8 HP8
 go_wp2
 go_end0
 exact ⟨rfl, HE.out.1, _, [ta, tb], by show [GT.era ta, GT.era tb] = _; rw [HERA.out, HERB.out], HE.out.2⟩
end Go.Proofs.YtoelmnamlnbdhaaGreatDoor
