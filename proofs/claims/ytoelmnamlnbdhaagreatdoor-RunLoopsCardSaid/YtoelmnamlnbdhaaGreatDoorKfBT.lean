/-
  Part of a proof of RunLoops: contracts of functions that the claim reaches, and plain lemmas.
-/
import Derived.Test.YtoelmnamlnbdhaaGreatDoorKfBS
set_option linter.all false
namespace Go.Proofs.YtoelmnamlnbdhaaGreatDoor
open Go.RowKit
open Hg (GT gl wk isK ndAt kidsK KB TreeK KidsOk retsK depthK)
attribute [local go_sem] Oper.semAt_some
theorem two_new (W : World) (o1 o2 : Obj) : Below W.heap.size W ((W.alloc o1).alloc o2) ∧ ((W.alloc o1).alloc o2).heap[W.heap.size]? = some o1 ∧ ((W.alloc o1).alloc o2).heap[W.heap.size + 1]? = some o2 ∧ ((W.alloc o1).alloc o2).heap.size = W.heap.size + 2 := by
 have h := heap_alloc_new (W.alloc o1) o2
 rw [show (W.alloc o1).heap.size = W.heap.size + 1 by simp] at h
 exact ⟨((Below.refl _ _).alloc (Nat.le_refl _) _).alloc (by simp) _, (heap_alloc_old _ _ (by simp)).trans (heap_alloc_new W _), h, by simp⟩
structure ShapedOk (M : Nat → Option Hg.Node) (par : Nat → Nat × Int) (F : Nat) (xs : List (Nat × Hg.Node)) : Prop where
 tree : ∃ F R, TreeK M F R
 walk : wk M F [1] [] = some xs
 f : F ≤ 1000000
 id : ∀ x ∈ xs, x.1 < idTop
 kind : ∀ x ∈ xs, 1 ≤ x.2.kind ∧ x.2.kind ≤ 20
 kids : ∀ x ∈ xs, KidsOk M x.2
 parts : ∀ x ∈ xs, PartsOk M x.2
 root : ∀ x ∈ xs, x.2.kind = 1 ↔ x.1 = 1
 rets : ∀ x ∈ xs, x.2.kind = 5 → retsK M par x.1 x.2 = true
 deep : ∀ x ∈ xs, x.2.kind = 3 → depthK M 201 x.1 ≤ 90
def shA (p1 p2 p3 p4 : Value) (a : Act) : Prop := ∃ u0 u5 u6 u7 u8 u9 u10 u11 u12 u13 u14 u15 u16 u17 u18 u19 u20 u21 u22 u23 u24 u25 u26 u27 u28 u29 u30 u31 u32 u33 u34 u35 u36 u37 u38 u39 u40 u41 u42 u43 u44 u45 u46 u47 u48 u49 u50 u51 u52 u53 u54 u55 u56 u57 u58 u59 u60 u61 u62 u63 u64 u65 u66 u67 u68 u69 u70 u71 u72 : Value, a = { tmps := #[u0, p1, p2, p3, p4, u5, u6, u7, u8, u9, u10, u11, u12, u13, u14, u15, u16, u17, u18, u19, u20, u21, u22, u23, u24, u25, u26, u27, u28, u29, u30, u31, u32, u33, u34, u35, u36, u37, u38, u39, u40, u41, u42, u43, u44, u45, u46, u47, u48, u49, u50, u51, u52, u53, u54, u55, u56, u57, u58, u59, u60, u61, u62, u63, u64, u65, u66, u67, u68, u69, u70, u71, u72], defers := [] }
def shB (p1 p2 p5 p6 : Value) (a : Act) : Prop := ∃ u0 u3 u4 u7 u8 u9 u10 u11 u12 u13 u14 u15 u16 u17 u18 u19 u20 u21 u22 u23 u24 u25 u26 u27 u28 u29 u30 u31 u32 u33 u34 u35 u36 u37 u38 u39 u40 u41 u42 u43 u44 u45 u46 u47 u48 u49 u50 u51 u52 u53 u54 u55 u56 u57 u58 u59 u60 u61 u62 u63 u64 u65 u66 u67 u68 u69 u70 u71 u72 : Value, a = { tmps := #[u0, p1, p2, u3, u4, p5, p6, u7, u8, u9, u10, u11, u12, u13, u14, u15, u16, u17, u18, u19, u20, u21, u22, u23, u24, u25, u26, u27, u28, u29, u30, u31, u32, u33, u34, u35, u36, u37, u38, u39, u40, u41, u42, u43, u44, u45, u46, u47, u48, u49, u50, u51, u52, u53, u54, u55, u56, u57, u58, u59, u60, u61, u62, u63, u64, u65, u66, u67, u68, u69, u70, u71, u72], defers := [] }
def ShR (ab B : Nat) (S : Nat → Prop) (x : WItem) (a : Act) (A : World) : Prop :=
 ∃ S0 blk, BoxI ab B S0 A ∧ shA (.pointer (some ⟨B, 0, none⟩)) (.pointer (some ⟨B + 1, 0, none⟩)) (idV x.id) (.pointer (some ⟨blk, 0, none⟩)) a ∧ A.heap[blk]? = some (.cells (ndCells x.nd x.ka x.kc) 70 (0, 0)) ∧ x.At A ∧ (∀ q, S q ↔ S0 q ∨ q = blk) ∧ ¬ S0 blk
def ShQ (ab B : Nat) (S : Nat → Prop) (x : WItem) (a : Act) (A : World) : Prop :=
 ∃ S0 blk, BoxI ab B S0 A ∧ shB (.pointer (some ⟨B, 0, none⟩)) (.pointer (some ⟨B + 1, 0, none⟩)) (idV x.id) (.pointer (some ⟨blk, 0, none⟩)) a ∧ A.heap[blk]? = some (.cells (ndCells x.nd x.ka x.kc) 70 (0, 0)) ∧ (∀ q, S q ↔ S0 q ∨ q = blk) ∧ ¬ S0 blk
set_option maxHeartbeats 16000000 in
set_option maxRecDepth 100000 in
theorem shaped_all_any (ab : Nat) (M : Nat → Option Hg.Node) (par : Nat → Nat × Int) (hp : ParOk M par) (F : Nat) (xs : List (Nat × Hg.Node)) (w : World) (hA : ArOk w ab M) (hT : TabOk w) (hS : ShapedOk M par F xs) :
 Calls Tryz.prog 25 #[.pointer (some ⟨ab, 0, none⟩)] w fun e w' => e = .returned (.bool true) ∧ Below w.heap.size w w' := by
 obtain ⟨F0, R0, htree⟩ := hS.tree
 have HP := Lib.hid hp
 have HA := Lib.hid hA
 have HSH := Lib.hid hS
 have HTB := Lib.hid hT
 have TW := Lib.hid (walk_any ab 1)
 have TR := Lib.hid (root_any ab)
 have TT := Lib.hid (fun W (h : Below w.heap.size w W) => tree_any ab M F0 R0 W (hA.below h) htree)
 obtain ⟨⟨mb, c, hAr⟩, hkb⟩ := hA
 have HAR := Lib.hid hAr
 have HKB := Lib.hid hkb
 clear hAr hkb htree hS hT hp
 refine (callsIn_wide (n := 5)).1 (callsIn_of_wp_marks Tryz.func25 rfl trivial ?_ rfl)
 simp only [Tryz.ntmps25, List.size_toArray, List.length_cons, List.length_nil, Nat.reduceAdd, Nat.reduceSub, Array.replicate_succ, Array.replicate_zero, List.push_toArray, List.append_toArray, List.nil_append, List.cons_append]
 gi_wp2_with fail
 obtain ⟨hb0, h0, h1, hz⟩ := two_new w (.cells #[.pointer (some ⟨ab, 0, none⟩)] 24) (.cells #[.bool false] 4)
 generalize World.alloc (World.alloc w _) _ = W0 at hb0 h0 h1 hz ⊢
 refine ⟨trivial, (callsIn_wide.2 (TT.out _ hb0)).mono ?_⟩
 rintro e WT ⟨rfl, hbT⟩
 have hbw := hb0.trans (hbT.mono hb0.size)
 have hBx := (hbT.block w.heap.size (by omega)).trans h0
 have hRx := (hbT.block (w.heap.size + 1) (by omega)).trans h1
 have hzw : w.heap.size + 2 ≤ WT.heap.size := by have := hbT.size; omega
 generalize Value.bool false = r0 at hRx
 clear hb0 h0 h1 hz hbT TT
 gi_wp2
 refine wpIn_wide.2 (wp_calm ?_)
 have e0 := cell_of_row WT w.heap.size 0 _ _ (0, 0) hBx
 simp at e0
 have hHeld : (fun w' => w'.cell? ⟨w.heap.size, 0, none⟩ = some (.pointer (some ⟨ab, 0, none⟩))) (WT).drew := e0
 refine wp_region_two (fun w' => w'.cell? ⟨w.heap.size, 0, none⟩ = some (.pointer (some ⟨ab, 0, none⟩))) 3 (by kernel_rfl) ?_
 refine tk 0 ?_ rfl (by kernel_rfl) (fun _ _ _ h => h) ‹_› (by rfl) ?_ ?_
 rotate_left
 · (intro w' hSw; (try dsimp only at hSw); go_simp; try with_reducible rfl)
 try simp only [Act.put, sA, sB, sC, sD, sE, sF]
 refine tk 1 ?_ rfl (by kernel_rfl) (fun _ _ _ h => h) ‹_› (by rfl) ?_ ?_
 rotate_left
 · (intro w' hSw; (try dsimp only at hSw); go_simp; try with_reducible rfl)
 try simp only [Act.put, sA, sB, sC, sD, sE, sF]
 refine wpAnyT_one (i := 2) rfl (by kernel_rfl) (fun K hK => ?_)
 go_simp
 refine (TR.out _).mono ?_
 rintro e w1 ⟨rfl, rfl⟩
 refine hK.out _ _ (hHeld) (fun hHeld => ?_)
 clear hK K
 try simp only [Act.put, sA, sB, sC, sD, sE, sF]
 refine wpAnyT_tail (by kernel_rfl) ?_
 simp only [List.drop_succ_cons, List.drop_zero]
 go_wp2_with fail
 refine (TW.out _).mono ?_
 rintro e w1 ⟨rfl, rfl⟩
 have hdz : (WT).drew.heap.size = (WT).heap.size := rfl
 obtain ⟨hbW, k1, k2, hzW⟩ := two_new (WT).drew (.cells #[.pointer (some ⟨ab, 0, none⟩)] 24) (.cells #[idV 1] 45)
 rw [hdz] at hbW k1 k2 hzW ⊢
 generalize World.alloc (World.alloc (WT).drew _) _ = W1 at hbW k1 k2 hzW ⊢
 have hbW : Below (WT).heap.size WT W1 := ((Below.refl _ _).drew).trans hbW
 generalize hnz : (WT).heap.size = nz at hbW k1 k2 hzW hzw ⊢
 have g0 : (W1).heap[w.heap.size]? = some (.cells #[.pointer (some ⟨ab, 0, none⟩)] 24 (0, 0)) := (hbW.block _ (by omega)).trans hBx
 have g1 : (W1).heap[w.heap.size + 1]? = some (.cells #[r0] 4 (0, 0)) := (hbW.block _ (by omega)).trans hRx
 have hb1 : Below w.heap.size w W1 := hbw.trans (hbW.mono (by omega))
 have hseq := walk_seq ab mb c M w.heap.size 1 (nz + 1) nz F xs W1 (fun W' hf => HAR.out.below (hb1.trans (hf.below' (by omega))) (Nat.le_refl _)) (cell_of_row W1 (nz + 1) 0 _ _ (0, 0) k2) (cell_of_row W1 nz 0 _ _ (0, 0) k1) ⟨by omega, by omega, by omega, by omega⟩ (by decide) HKB.out HSH.out.walk HSH.out.f
 have HB1 := Lib.hid hb1
 have HARW := Lib.hid (show ∀ W', Fr (fun q => w.heap.size ≤ q) W1 W' → ArOk W' ab M from fun W' hf => HA.out.below (hb1.trans (hf.below' (by omega))))
 have HBN := Lib.hid (And.intro hnz hbW)
 clear k1 k2 hHeld hBx hRx hbw hbW e0 hb1 hdz hnz
 go_wp2
 gi_wp2
 refine wpIn_walk (gf := 92) rfl (enters_of Tryz.func92 (by kernel_rfl) rfl) hseq (Fr.refl _ _) rfl (fun q h => by rcases h with h | h <;> omega) (by omega)
  (fun S _ A => BoxI ab w.heap.size S A) (fun _ _ _ _ => False) (fun S _ x a A => ShR ab w.heap.size S x a A) (fun S pre A A' h hf => h.fr hf) (fun _ _ _ _ _ h _ => h) ?hI1 (fun S pre A h q hq => (h.lt q hq).2) ?hI1l
  (fun q => q = w.heap.size ∨ q = w.heap.size + 1) ⟨g0, ⟨_, g1⟩, fun q => Iff.rfl⟩ (fun q e => by rcases e with e | e <;> subst e <;> exact ⟨by omega, by omega, by omega⟩) ?assign ?body ?done ?stop
 case hI1 =>
  rintro S pre x a A A' ⟨S0, blk, hi, ha, hb, hx, hS, hn⟩ hf
  exact ⟨S0, blk, hi.fr (hf.imp (fun q _ h h' => h (.inl ((hS q).2 (.inl h'))))), ha, hf.at_ hb (fun h => h (.inl ((hS blk).2 (.inr rfl)))), (hx.fr (Nat.le_refl _) hf (fun q e h => h (.inr e))).more hf.size, hS, hn⟩
 case hI1l =>
  rintro S pre x a A ⟨S0, blk, hi, ha, hb, hx, hS, hn⟩ q hq
  rcases (hS q).1 hq with h | h
  ·
   exact (hi.lt q h).2
  ·
   subst h; exact (Array.getElem?_eq_some_iff.1 hb).1
 case assign =>
  intro l m S pre x A K hi hpre hx hkb hf hK
  gi_wp2
  refine hK (fun q => S q ∨ q = A.heap.size) _ _ ⟨S, A.heap.size, hi.fr ((Fr.refl _ _).alloc _), ?_, heap_alloc_new A _, Sl.alloc hx (Nat.le_refl _) _ |>.more (by simp), fun q => Iff.rfl, fun h => by have := (hi.lt _ h).2; omega⟩ ((Fr.refl _ _).alloc _) (fun q h => h.imp (fun h => h) (fun h => by omega))
  exact ⟨_, _, _, _, _, _, _, _, _, _, _, _, _, _, _, _, _, _, _, _, _, _, _, _, _, _, _, _, _, _, _, _, _, _, _, _, _, _, _, _, _, _, _, _, _, _, _, _, _, _, _, _, _, _, _, _, _, _, _, _, _, _, _, _, _, _, _, _, _, rfl⟩
 case body =>
  rintro l m S pre x a1 A ⟨S0, blk, ⟨hbx, ⟨r0, hbr⟩, hSv⟩, ha, hb, hx, hS, hn⟩ hpre hf
  obtain ⟨u0, u5, u6, u7, u8, u9, u10, u11, u12, u13, u14, u15, u16, u17, u18, u19, u20, u21, u22, u23, u24, u25, u26, u27, u28, u29, u30, u31, u32, u33, u34, u35, u36, u37, u38, u39, u40, u41, u42, u43, u44, u45, u46, u47, u48, u49, u50, u51, u52, u53, u54, u55, u56, u57, u58, u59, u60, u61, u62, u63, u64, u65, u66, u67, u68, u69, u70, u71, u72, rfl⟩ := ha
  have hxm : x.strip ∈ xs := hpre.subset (by simp)
  have hf2 : Fr (fun q => w.heap.size ≤ q) W1 A := hf.imp (fun q _ e => by rcases e with (e | e) | e | e <;> omega)
  have hAA := HARW.out A hf2
  have hTA := HTB.out.block ((HB1.out.trans (hf2.below' (by omega))).block _ HTB.out.lt)
  obtain ⟨xi, nd, ka, kc⟩ := x
  have hxm : (xi, nd) ∈ xs := hxm
  have hMx := Hg.wk_mem M F _ _ _ HSH.out.walk _ hxm
  have hkt := HKB.out xi nd hMx
  have hnl := HA.out.len xi
  unfold ndAt at hnl
  rw [hMx] at hnl
  have hnl : nd.kids.length ≤ 1000000 := hnl
  have hkd := HSH.out.kind _ hxm
  have hrt := HSH.out.root _ hxm
  have hre := HSH.out.rets _ hxm
  have hki := HSH.out.kids _ hxm
  have hpa := HSH.out.parts _ hxm
  dsimp only at hkd hrt hre hki hpa
  have hx : Sl A A.heap.size (.slice ka nd.kids.length kc) nd.kids.length (nd.kids.map idV) := hx
  have TK := Lib.hid (fun W (h : Below A.heap.size A W) => tkids_any ab M nd ka kc W (hAA.below h) ((hx.below h (Nat.le_refl _)).more h.size) hnl hkt hki)
  have TP := Lib.hid (fun W (h : Below A.heap.size A W) => parts_any ab M HP.out.zero nd ka kc W (hAA.below h) (hTA.block (h.block _ hTA.lt)) hpa)
  have TQ := Lib.hid (fun W (h : Below A.heap.size A W) => returns_any ab M par HP.out xi nd ka kc W (hAA.below h) ((hx.below h (Nat.le_refl _)).more h.size) hnl hkt)
  have hbl := (Array.getElem?_eq_some_iff.1 hb).1
  have hBl := (Array.getElem?_eq_some_iff.1 hbx).1
  have hnx : ¬ (fun _ : Nat => False) w.heap.size := fun h => h
  have hnr : ¬ (fun _ : Nat => False) (w.heap.size + 1) := fun h => h
  have eB := cell_of_row A w.heap.size 0 _ _ (0, 0) hbx
  have y := fun i => cell_of_row A blk i _ _ (0, 0) hb
  have y0 := y 0; have y1 := y 1; have y2 := y 2; have y3 := y 3; have y4 := y 4; have y5 := y 5
  simp at eB y0 y1 y2 y3 y4 y5
  have hHeld : (fun w' => w'.cell? ⟨w.heap.size, 0, none⟩ = some (.pointer (some ⟨ab, 0, none⟩)) ∧ w'.cell? ⟨blk, 0, none⟩ = some (.int .u8 (nd.kind : Int)) ∧ w'.cell? ⟨blk, 1, none⟩ = some (strV nd.name) ∧ w'.cell? ⟨blk, 2, none⟩ = some (.int .i64 nd.num) ∧ w'.cell? ⟨blk, 3, none⟩ = some (.int .u8 (nd.type : Int)) ∧ w'.cell? ⟨blk, 4, none⟩ = some (.int .u64 (nd.ref : Int)) ∧ w'.cell? ⟨blk, 5, none⟩ = some (.slice ka nd.kids.length kc)) A.drew := ⟨eB, y0, y1, y2, y3, y4, y5⟩
  have hHeld0 := hHeld
  have HBc := Lib.hid (Below.refl A.heap.size A)
  have q1 : decide ((nd.kind : Int) < 1) = false := by simp; omega
  have q2 : decide ((20 : Int) < (nd.kind : Int)) = false := by simp; omega
  have q3 : decide (20 < nd.kind) = false := by simp; omega
  have q4 : ¬ nd.kind = 0 := by omega
  clear hpre hf hf2 hAA hTA hMx hkt hki hpa eB y y0 y1 y2 y3 y4 y5 hkd
  by_cases hk1 : nd.kind = 1
  ·
   have hx1 := hrt.1 hk1
   subst hx1
   have q7 : ((nd.kind : Int) == 1) = true := by simp [hk1]
   have q5 : ((nd.kind : Int) == 5) = false := by simp [hk1]
   clear hk1 hrt hre TQ
   gi_wp2
   refine wpIn_region_two (fun w' => w'.cell? ⟨w.heap.size, 0, none⟩ = some (.pointer (some ⟨ab, 0, none⟩)) ∧ w'.cell? ⟨blk, 0, none⟩ = some (.int .u8 (nd.kind : Int)) ∧ w'.cell? ⟨blk, 1, none⟩ = some (strV nd.name) ∧ w'.cell? ⟨blk, 2, none⟩ = some (.int .i64 nd.num) ∧ w'.cell? ⟨blk, 3, none⟩ = some (.int .u8 (nd.type : Int)) ∧ w'.cell? ⟨blk, 4, none⟩ = some (.int .u64 (nd.ref : Int)) ∧ w'.cell? ⟨blk, 5, none⟩ = some (.slice ka nd.kids.length kc)) 41 (by kernel_rfl) (by kernel_rfl) (by rintro ⟨_, _, h⟩; exact h) ?_
   refine tk 0 ?_ rfl (by kernel_rfl) (fun _ _ _ h => h) ‹_› (by rfl) ?_ ?_
   rotate_left
   · (intro w' hSw; (try dsimp only at hSw); go_simp; try with_reducible rfl)
   try simp only [Act.put, sA, sB, sC, sD, sE, sF]
   refine tk 1 ?_ rfl (by kernel_rfl) (fun _ _ _ h => h) ‹_› (by rfl) ?_ ?_
   rotate_left
   · (intro w' hSw; (try dsimp only at hSw); go_simp; try with_reducible rfl)
   try simp only [Act.put, sA, sB, sC, sD, sE, sF]
   refine tk 2 ?_ rfl (by kernel_rfl) (fun _ _ _ h => h) ‹_› (by rfl) ?_ ?_
   rotate_left
   · (intro w' hSw; (try dsimp only at hSw); go_simp; try with_reducible rfl)
   try simp only [Act.put, sA, sB, sC, sD, sE, sF]
   refine tk 3 ?_ rfl (by kernel_rfl) (fun _ _ _ h => h) ‹_› (by rfl) ?_ ?_
   rotate_left
   · (intro w' hSw; (try dsimp only at hSw); go_simp; try with_reducible rfl)
   try simp only [Act.put, sA, sB, sC, sD, sE, sF]
   refine tk 4 ?_ rfl (by kernel_rfl) (fun _ _ _ h => h) ‹_› (by rfl) ?_ ?_
   rotate_left
   · (intro w' hSw; (try dsimp only at hSw); go_simp; try with_reducible rfl)
   try simp only [Act.put, sA, sB, sC, sD, sE, sF]
   refine tk 5 ?_ rfl (by kernel_rfl) (fun _ _ _ h => h) ‹_› (by rfl) ?_ ?_
   rotate_left
   · (intro w' hSw; (try dsimp only at hSw); go_simp; try with_reducible rfl)
   try simp only [Act.put, sA, sB, sC, sD, sE, sF]
   refine tk 6 ?_ rfl (by kernel_rfl) (fun _ _ _ h => h) ‹_› (by rfl) ?_ ?_
   rotate_left
   · (intro w' hSw; (try dsimp only at hSw); go_simp; try with_reducible rfl)
   try simp only [Act.put, sA, sB, sC, sD, sE, sF]
   refine tk 7 ?_ rfl (by kernel_rfl) (fun _ _ _ h => h) ‹_› (by rfl) ?_ ?_
   rotate_left
   · (intro w' hSw; (try dsimp only at hSw); go_simp; try with_reducible rfl)
   try simp only [Act.put, sA, sB, sC, sD, sE, sF]
   refine tk 8 ?_ rfl (by kernel_rfl) (fun _ _ _ h => h) ‹_› (by rfl) ?_ ?_
   rotate_left
   · (intro w' hSw; (try dsimp only at hSw); go_simp; try with_reducible rfl)
   try simp only [Act.put, sA, sB, sC, sD, sE, sF]
   refine tk 9 ?_ rfl (by kernel_rfl) (fun _ _ _ h => h) ‹_› (by rfl) ?_ ?_
   rotate_left
   · (intro w' hSw; (try dsimp only at hSw); go_simp; try with_reducible rfl)
   try simp only [Act.put, sA, sB, sC, sD, sE, sF]
   refine tk 10 ?_ rfl (by kernel_rfl) (fun _ _ _ h => h) ‹_› (by rfl) ?_ ?_
   rotate_left
   · (intro w' hSw; (try dsimp only at hSw); go_simp; try with_reducible rfl)
   try simp only [Act.put, sA, sB, sC, sD, sE, sF]
   refine wpAnyT_one (i := 11) rfl (by kernel_rfl) (fun K hK => ?_)
   go_simp
   refine Calls.mono (TK.out _ (by first | exact HBc.out | exact HBc.out.drew | exact HBc.out.drew.drew)) ?_
   rintro e w5 ⟨rfl, hb5⟩
   have HBc := Lib.hid (show Below A.heap.size A w5 from by first | exact HBc.out.trans (hb5.mono HBc.out.size) | exact HBc.out.drew.trans (hb5.mono HBc.out.drew.size))
   clear hb5 TK
   refine hK.out _ _ (⟨(HBc.out.cell (p := ⟨w.heap.size, 0, none⟩) hBl).trans hHeld0.1, (HBc.out.cell (p := ⟨blk, 0, none⟩) hbl).trans hHeld0.2.1, (HBc.out.cell (p := ⟨blk, 1, none⟩) hbl).trans hHeld0.2.2.1, (HBc.out.cell (p := ⟨blk, 2, none⟩) hbl).trans hHeld0.2.2.2.1, (HBc.out.cell (p := ⟨blk, 3, none⟩) hbl).trans hHeld0.2.2.2.2.1, (HBc.out.cell (p := ⟨blk, 4, none⟩) hbl).trans hHeld0.2.2.2.2.2.1, (HBc.out.cell (p := ⟨blk, 5, none⟩) hbl).trans hHeld0.2.2.2.2.2.2⟩) (fun hHeld => ?_)
   clear hK K
   try simp only [Act.put, sA, sB, sC, sD, sE, sF]
   refine tk 12 ?_ rfl (by kernel_rfl) (fun _ _ _ h => h) ‹_› (by rfl) ?_ ?_
   rotate_left
   · (intro w' hSw; (try dsimp only at hSw); go_simp; try with_reducible rfl)
   try simp only [Act.put, sA, sB, sC, sD, sE, sF]
   refine tk 13 ?_ rfl (by kernel_rfl) (fun _ _ _ h => h) ‹_› (by rfl) ?_ ?_
   rotate_left
   · (intro w' hSw; (try dsimp only at hSw); go_simp; try with_reducible rfl)
   try simp only [Act.put, sA, sB, sC, sD, sE, sF]
   refine tk 14 ?_ rfl (by kernel_rfl) (fun _ _ _ h => h) ‹_› (by rfl) ?_ ?_
   rotate_left
   · (intro w' hSw; (try dsimp only at hSw); go_simp; try with_reducible rfl)
   try simp only [Act.put, sA, sB, sC, sD, sE, sF]
   refine tk 15 ?_ rfl (by kernel_rfl) (fun _ _ _ h => h) ‹_› (by rfl) ?_ ?_
   rotate_left
   · (intro w' hSw; (try dsimp only at hSw); go_simp; try with_reducible rfl)
   try simp only [Act.put, sA, sB, sC, sD, sE, sF]
   refine tk 16 ?_ rfl (by kernel_rfl) (fun _ _ _ h => h) ‹_› (by rfl) ?_ ?_
   rotate_left
   · (intro w' hSw; (try dsimp only at hSw); go_simp; try with_reducible rfl)
   try simp only [Act.put, sA, sB, sC, sD, sE, sF]
   refine wpAnyT_one (i := 17) rfl (by kernel_rfl) (fun K hK => ?_)
   go_simp
   refine Calls.mono (TP.out _ (by first | exact HBc.out | exact HBc.out.drew | exact HBc.out.drew.drew)) ?_
   rintro e w6 ⟨rfl, hb5⟩
   have HBc := Lib.hid (show Below A.heap.size A w6 from by first | exact HBc.out.trans (hb5.mono HBc.out.size) | exact HBc.out.drew.trans (hb5.mono HBc.out.drew.size))
   clear hb5 TP
   refine hK.out _ _ (⟨(HBc.out.cell (p := ⟨w.heap.size, 0, none⟩) hBl).trans hHeld0.1, (HBc.out.cell (p := ⟨blk, 0, none⟩) hbl).trans hHeld0.2.1, (HBc.out.cell (p := ⟨blk, 1, none⟩) hbl).trans hHeld0.2.2.1, (HBc.out.cell (p := ⟨blk, 2, none⟩) hbl).trans hHeld0.2.2.2.1, (HBc.out.cell (p := ⟨blk, 3, none⟩) hbl).trans hHeld0.2.2.2.2.1, (HBc.out.cell (p := ⟨blk, 4, none⟩) hbl).trans hHeld0.2.2.2.2.2.1, (HBc.out.cell (p := ⟨blk, 5, none⟩) hbl).trans hHeld0.2.2.2.2.2.2⟩) (fun hHeld => ?_)
   clear hK K
   try simp only [Act.put, sA, sB, sC, sD, sE, sF]
   refine tk 18 ?_ rfl (by kernel_rfl) (fun _ _ _ h => h) ‹_› (by rfl) ?_ ?_
   rotate_left
   · (intro w' hSw; (try dsimp only at hSw); go_simp; try with_reducible rfl)
   try simp only [Act.put, sA, sB, sC, sD, sE, sF]
   refine tk 19 ?_ rfl (by kernel_rfl) (fun _ _ _ h => h) ‹_› (by rfl) ?_ ?_
   rotate_left
   · (intro w' hSw; (try dsimp only at hSw); go_simp; try with_reducible rfl)
   try simp only [Act.put, sA, sB, sC, sD, sE, sF]
   refine tk 20 ?_ rfl (by kernel_rfl) (fun _ _ _ h => h) ‹_› (by rfl) ?_ ?_
   rotate_left
   · (intro w' hSw; (try dsimp only at hSw); go_simp; try with_reducible rfl)
   try simp only [Act.put, sA, sB, sC, sD, sE, sF]
   refine tk 21 ?_ rfl (by kernel_rfl) (fun _ _ _ h => h) ‹_› (by rfl) ?_ ?_
   rotate_left
   · (intro w' hSw; (try dsimp only at hSw); go_simp; try with_reducible rfl)
   try simp only [Act.put, sA, sB, sC, sD, sE, sF]
   refine tk 22 ?_ rfl (by kernel_rfl) (fun _ _ _ h => h) ‹_› (by rfl) ?_ ?_
   rotate_left
   · (intro w' hSw; (try dsimp only at hSw); go_simp; try with_reducible rfl)
   try simp only [Act.put, sA, sB, sC, sD, sE, sF]
   refine tk 23 ?_ rfl (by kernel_rfl) (fun _ _ _ h => h) ‹_› (by rfl) ?_ ?_
   rotate_left
   · (intro w' hSw; (try dsimp only at hSw); go_simp; try with_reducible rfl)
   try simp only [Act.put, sA, sB, sC, sD, sE, sF]
   refine tk 24 ?_ rfl (by kernel_rfl) (fun _ _ _ h => h) ‹_› (by rfl) ?_ ?_
   rotate_left
   · (intro w' hSw; (try dsimp only at hSw); go_simp; try with_reducible rfl)
   try simp only [Act.put, sA, sB, sC, sD, sE, sF]
   refine tk 25 ?_ rfl (by kernel_rfl) (fun _ _ _ h => h) ‹_› (by rfl) ?_ ?_
   rotate_left
   · (intro w' hSw; (try dsimp only at hSw); go_simp; try with_reducible rfl)
   try simp only [Act.put, sA, sB, sC, sD, sE, sF]
   refine wpAnyT_one (i := 26) rfl (by kernel_rfl) (fun K hK => ?_)
   go_simp
   refine (TR.out _).mono ?_
   rintro e w8 ⟨rfl, rfl⟩
   refine hK.out _ _ (hHeld) (fun hHeld => ?_)
   clear hK K
   try simp only [Act.put, sA, sB, sC, sD, sE, sF]
   refine tk 27 ?_ rfl (by kernel_rfl) (fun _ _ _ h => h) ‹_› (by rfl) ?_ ?_
   rotate_left
   · (intro w' hSw; (try dsimp only at hSw); go_simp; try with_reducible rfl)
   try simp only [Act.put, sA, sB, sC, sD, sE, sF]
   refine tk 28 ?_ rfl (by kernel_rfl) (fun _ _ _ h => h) ‹_› (by rfl) ?_ ?_
   rotate_left
   · (intro w' hSw; (try dsimp only at hSw); go_simp; try with_reducible rfl)
   try simp only [Act.put, sA, sB, sC, sD, sE, sF]
   refine tk 29 ?_ rfl (by kernel_rfl) (fun _ _ _ h => h) ‹_› (by rfl) ?_ ?_
   rotate_left
   · (intro w' hSw; (try dsimp only at hSw); go_simp; try with_reducible rfl)
   try simp only [Act.put, sA, sB, sC, sD, sE, sF]
   refine tk 30 ?_ rfl (by kernel_rfl) (fun _ _ _ h => h) ‹_› (by rfl) ?_ ?_
   rotate_left
   · (intro w' hSw; (try dsimp only at hSw); go_simp; try with_reducible rfl)
   try simp only [Act.put, sA, sB, sC, sD, sE, sF]
   refine tk 31 ?_ rfl (by kernel_rfl) (fun _ _ _ h => h) ‹_› (by rfl) ?_ ?_
   rotate_left
   · (intro w' hSw; (try dsimp only at hSw); go_simp; try with_reducible rfl)
   try simp only [Act.put, sA, sB, sC, sD, sE, sF]
   refine tk 32 ?_ rfl (by kernel_rfl) (fun _ _ _ h => h) ‹_› (by rfl) ?_ ?_
   rotate_left
   · (intro w' hSw; (try dsimp only at hSw); go_simp; try with_reducible rfl)
   try simp only [Act.put, sA, sB, sC, sD, sE, sF]
   refine tk 33 ?_ rfl (by kernel_rfl) (fun _ _ _ h => h) ‹_› (by rfl) ?_ ?_
   rotate_left
   · (intro w' hSw; (try dsimp only at hSw); go_simp; try with_reducible rfl)
   try simp only [Act.put, sA, sB, sC, sD, sE, sF]
   refine tk 34 ?_ rfl (by kernel_rfl) (fun _ _ _ h => h) ‹_› (by rfl) ?_ ?_
   rotate_left
   · (intro w' hSw; (try dsimp only at hSw); go_simp; try with_reducible rfl)
   try simp only [Act.put, sA, sB, sC, sD, sE, sF]
   refine wpAnyT_take (i := 35) rfl (by kernel_rfl) (fun _ _ _ h => h) (by assumption) (Or.inr ⟨by rfl, rfl⟩) ?_
   try simp only [Act.put, sA, sB, sC, sD, sE, sF]
   refine wpAnyT_take (i := 36) rfl (by kernel_rfl) (fun _ _ _ h => h) (by assumption) (Or.inr ⟨by rfl, rfl⟩) ?_
   try simp only [Act.put, sA, sB, sC, sD, sE, sF]
   refine wpAnyT_take (i := 37) rfl (by kernel_rfl) (fun _ _ _ h => h) (by assumption) (Or.inr ⟨by rfl, rfl⟩) ?_
   try simp only [Act.put, sA, sB, sC, sD, sE, sF]
   refine wpAnyT_take (i := 38) rfl (by kernel_rfl) (fun _ _ _ h => h) (by assumption) (Or.inr ⟨by rfl, rfl⟩) ?_
   try simp only [Act.put, sA, sB, sC, sD, sE, sF]
   refine wpAnyT_take (i := 39) rfl (by kernel_rfl) (fun _ _ _ h => h) (by assumption) (Or.inr ⟨by rfl, rfl⟩) ?_
   try simp only [Act.put, sA, sB, sC, sD, sE, sF]
   refine tk 40 ?_ rfl (by kernel_rfl) (fun _ _ _ h => h) ‹_› (by rfl) ?_ ?_
   rotate_left
   · (intro w' hSw; (try dsimp only at hSw); go_simp; try with_reducible rfl)
   try simp only [Act.put, sA, sB, sC, sD, sE, sF]
   refine wpAnyT_tail (by kernel_rfl) ?_
   simp only [List.drop_succ_cons, List.drop_zero]
   have HFA : Fr (fun _ => False) A _ := Fr.of_below HBc.out
   clear hHeld hHeld0
   have HFR := Lib.hid HFA
   clear HFA
   go_wp2
   gi_wp2
   exact ⟨S0, ⟨HFR.out.at_ hbx hnx, ⟨r0, HFR.out.at_ hbr hnr⟩, hSv⟩, HFR.out.imp (fun q _ e => e.elim), fun q h => .inl ((hS q).2 (.inl h))⟩
  ·
   have hx1 : xi ≠ 1 := fun e => hk1 (hrt.2 e)
   have q7 : ((nd.kind : Int) == 1) = false := by simp; omega
   have q8 : ((xi : Int) == 1) = false := by simp; omega
   by_cases k5 : nd.kind = 5
   ·
    have q5 : ((nd.kind : Int) == 5) = true := by simp [k5]
    have hr5 := hre k5
    have TQ2 := TQ.out
    simp only [hr5] at TQ2
    have TQ := Lib.hid TQ2
    clear k5 hk1 hx1 hrt hre hr5 TQ2
    gi_wp2
    refine wpIn_region_two (fun w' => w'.cell? ⟨w.heap.size, 0, none⟩ = some (.pointer (some ⟨ab, 0, none⟩)) ∧ w'.cell? ⟨blk, 0, none⟩ = some (.int .u8 (nd.kind : Int)) ∧ w'.cell? ⟨blk, 1, none⟩ = some (strV nd.name) ∧ w'.cell? ⟨blk, 2, none⟩ = some (.int .i64 nd.num) ∧ w'.cell? ⟨blk, 3, none⟩ = some (.int .u8 (nd.type : Int)) ∧ w'.cell? ⟨blk, 4, none⟩ = some (.int .u64 (nd.ref : Int)) ∧ w'.cell? ⟨blk, 5, none⟩ = some (.slice ka nd.kids.length kc)) 41 (by kernel_rfl) (by kernel_rfl) (by rintro ⟨_, _, h⟩; exact h) ?_
    refine tk 0 ?_ rfl (by kernel_rfl) (fun _ _ _ h => h) ‹_› (by rfl) ?_ ?_
    rotate_left
    · (intro w' hSw; (try dsimp only at hSw); go_simp; try with_reducible rfl)
    try simp only [Act.put, sA, sB, sC, sD, sE, sF]
    refine tk 1 ?_ rfl (by kernel_rfl) (fun _ _ _ h => h) ‹_› (by rfl) ?_ ?_
    rotate_left
    · (intro w' hSw; (try dsimp only at hSw); go_simp; try with_reducible rfl)
    try simp only [Act.put, sA, sB, sC, sD, sE, sF]
    refine tk 2 ?_ rfl (by kernel_rfl) (fun _ _ _ h => h) ‹_› (by rfl) ?_ ?_
    rotate_left
    · (intro w' hSw; (try dsimp only at hSw); go_simp; try with_reducible rfl)
    try simp only [Act.put, sA, sB, sC, sD, sE, sF]
    refine tk 3 ?_ rfl (by kernel_rfl) (fun _ _ _ h => h) ‹_› (by rfl) ?_ ?_
    rotate_left
    · (intro w' hSw; (try dsimp only at hSw); go_simp; try with_reducible rfl)
    try simp only [Act.put, sA, sB, sC, sD, sE, sF]
    refine tk 4 ?_ rfl (by kernel_rfl) (fun _ _ _ h => h) ‹_› (by rfl) ?_ ?_
    rotate_left
    · (intro w' hSw; (try dsimp only at hSw); go_simp; try with_reducible rfl)
    try simp only [Act.put, sA, sB, sC, sD, sE, sF]
    refine tk 5 ?_ rfl (by kernel_rfl) (fun _ _ _ h => h) ‹_› (by rfl) ?_ ?_
    rotate_left
    · (intro w' hSw; (try dsimp only at hSw); go_simp; try with_reducible rfl)
    try simp only [Act.put, sA, sB, sC, sD, sE, sF]
    refine tk 6 ?_ rfl (by kernel_rfl) (fun _ _ _ h => h) ‹_› (by rfl) ?_ ?_
    rotate_left
    · (intro w' hSw; (try dsimp only at hSw); go_simp; try with_reducible rfl)
    try simp only [Act.put, sA, sB, sC, sD, sE, sF]
    refine tk 7 ?_ rfl (by kernel_rfl) (fun _ _ _ h => h) ‹_› (by rfl) ?_ ?_
    rotate_left
    · (intro w' hSw; (try dsimp only at hSw); go_simp; try with_reducible rfl)
    try simp only [Act.put, sA, sB, sC, sD, sE, sF]
    refine tk 8 ?_ rfl (by kernel_rfl) (fun _ _ _ h => h) ‹_› (by rfl) ?_ ?_
    rotate_left
    · (intro w' hSw; (try dsimp only at hSw); go_simp; try with_reducible rfl)
    try simp only [Act.put, sA, sB, sC, sD, sE, sF]
    refine tk 9 ?_ rfl (by kernel_rfl) (fun _ _ _ h => h) ‹_› (by rfl) ?_ ?_
    rotate_left
    · (intro w' hSw; (try dsimp only at hSw); go_simp; try with_reducible rfl)
    try simp only [Act.put, sA, sB, sC, sD, sE, sF]
    refine tk 10 ?_ rfl (by kernel_rfl) (fun _ _ _ h => h) ‹_› (by rfl) ?_ ?_
    rotate_left
    · (intro w' hSw; (try dsimp only at hSw); go_simp; try with_reducible rfl)
    try simp only [Act.put, sA, sB, sC, sD, sE, sF]
    refine wpAnyT_one (i := 11) rfl (by kernel_rfl) (fun K hK => ?_)
    go_simp
    refine Calls.mono (TK.out _ (by first | exact HBc.out | exact HBc.out.drew | exact HBc.out.drew.drew)) ?_
    rintro e w5 ⟨rfl, hb5⟩
    have HBc := Lib.hid (show Below A.heap.size A w5 from by first | exact HBc.out.trans (hb5.mono HBc.out.size) | exact HBc.out.drew.trans (hb5.mono HBc.out.drew.size))
    clear hb5 TK
    refine hK.out _ _ (⟨(HBc.out.cell (p := ⟨w.heap.size, 0, none⟩) hBl).trans hHeld0.1, (HBc.out.cell (p := ⟨blk, 0, none⟩) hbl).trans hHeld0.2.1, (HBc.out.cell (p := ⟨blk, 1, none⟩) hbl).trans hHeld0.2.2.1, (HBc.out.cell (p := ⟨blk, 2, none⟩) hbl).trans hHeld0.2.2.2.1, (HBc.out.cell (p := ⟨blk, 3, none⟩) hbl).trans hHeld0.2.2.2.2.1, (HBc.out.cell (p := ⟨blk, 4, none⟩) hbl).trans hHeld0.2.2.2.2.2.1, (HBc.out.cell (p := ⟨blk, 5, none⟩) hbl).trans hHeld0.2.2.2.2.2.2⟩) (fun hHeld => ?_)
    clear hK K
    try simp only [Act.put, sA, sB, sC, sD, sE, sF]
    refine tk 12 ?_ rfl (by kernel_rfl) (fun _ _ _ h => h) ‹_› (by rfl) ?_ ?_
    rotate_left
    · (intro w' hSw; (try dsimp only at hSw); go_simp; try with_reducible rfl)
    try simp only [Act.put, sA, sB, sC, sD, sE, sF]
    refine tk 13 ?_ rfl (by kernel_rfl) (fun _ _ _ h => h) ‹_› (by rfl) ?_ ?_
    rotate_left
    · (intro w' hSw; (try dsimp only at hSw); go_simp; try with_reducible rfl)
    try simp only [Act.put, sA, sB, sC, sD, sE, sF]
    refine tk 14 ?_ rfl (by kernel_rfl) (fun _ _ _ h => h) ‹_› (by rfl) ?_ ?_
    rotate_left
    · (intro w' hSw; (try dsimp only at hSw); go_simp; try with_reducible rfl)
    try simp only [Act.put, sA, sB, sC, sD, sE, sF]
    refine tk 15 ?_ rfl (by kernel_rfl) (fun _ _ _ h => h) ‹_› (by rfl) ?_ ?_
    rotate_left
    · (intro w' hSw; (try dsimp only at hSw); go_simp; try with_reducible rfl)
    try simp only [Act.put, sA, sB, sC, sD, sE, sF]
    refine tk 16 ?_ rfl (by kernel_rfl) (fun _ _ _ h => h) ‹_› (by rfl) ?_ ?_
    rotate_left
    · (intro w' hSw; (try dsimp only at hSw); go_simp; try with_reducible rfl)
    try simp only [Act.put, sA, sB, sC, sD, sE, sF]
    refine wpAnyT_one (i := 17) rfl (by kernel_rfl) (fun K hK => ?_)
    go_simp
    refine Calls.mono (TP.out _ (by first | exact HBc.out | exact HBc.out.drew | exact HBc.out.drew.drew)) ?_
    rintro e w6 ⟨rfl, hb5⟩
    have HBc := Lib.hid (show Below A.heap.size A w6 from by first | exact HBc.out.trans (hb5.mono HBc.out.size) | exact HBc.out.drew.trans (hb5.mono HBc.out.drew.size))
    clear hb5 TP
    refine hK.out _ _ (⟨(HBc.out.cell (p := ⟨w.heap.size, 0, none⟩) hBl).trans hHeld0.1, (HBc.out.cell (p := ⟨blk, 0, none⟩) hbl).trans hHeld0.2.1, (HBc.out.cell (p := ⟨blk, 1, none⟩) hbl).trans hHeld0.2.2.1, (HBc.out.cell (p := ⟨blk, 2, none⟩) hbl).trans hHeld0.2.2.2.1, (HBc.out.cell (p := ⟨blk, 3, none⟩) hbl).trans hHeld0.2.2.2.2.1, (HBc.out.cell (p := ⟨blk, 4, none⟩) hbl).trans hHeld0.2.2.2.2.2.1, (HBc.out.cell (p := ⟨blk, 5, none⟩) hbl).trans hHeld0.2.2.2.2.2.2⟩) (fun hHeld => ?_)
    clear hK K
    try simp only [Act.put, sA, sB, sC, sD, sE, sF]
    refine tk 18 ?_ rfl (by kernel_rfl) (fun _ _ _ h => h) ‹_› (by rfl) ?_ ?_
    rotate_left
    · (intro w' hSw; (try dsimp only at hSw); go_simp; try with_reducible rfl)
    try simp only [Act.put, sA, sB, sC, sD, sE, sF]
    refine tk 19 ?_ rfl (by kernel_rfl) (fun _ _ _ h => h) ‹_› (by rfl) ?_ ?_
    rotate_left
    · (intro w' hSw; (try dsimp only at hSw); go_simp; try with_reducible rfl)
    try simp only [Act.put, sA, sB, sC, sD, sE, sF]
    refine tk 20 ?_ rfl (by kernel_rfl) (fun _ _ _ h => h) ‹_› (by rfl) ?_ ?_
    rotate_left
    · (intro w' hSw; (try dsimp only at hSw); go_simp; try with_reducible rfl)
    try simp only [Act.put, sA, sB, sC, sD, sE, sF]
    refine tk 21 ?_ rfl (by kernel_rfl) (fun _ _ _ h => h) ‹_› (by rfl) ?_ ?_
    rotate_left
    · (intro w' hSw; (try dsimp only at hSw); go_simp; try with_reducible rfl)
    try simp only [Act.put, sA, sB, sC, sD, sE, sF]
    refine tk 22 ?_ rfl (by kernel_rfl) (fun _ _ _ h => h) ‹_› (by rfl) ?_ ?_
    rotate_left
    · (intro w' hSw; (try dsimp only at hSw); go_simp; try with_reducible rfl)
    try simp only [Act.put, sA, sB, sC, sD, sE, sF]
    refine tk 23 ?_ rfl (by kernel_rfl) (fun _ _ _ h => h) ‹_› (by rfl) ?_ ?_
    rotate_left
    · (intro w' hSw; (try dsimp only at hSw); go_simp; try with_reducible rfl)
    try simp only [Act.put, sA, sB, sC, sD, sE, sF]
    refine tk 24 ?_ rfl (by kernel_rfl) (fun _ _ _ h => h) ‹_› (by rfl) ?_ ?_
    rotate_left
    · (intro w' hSw; (try dsimp only at hSw); go_simp; try with_reducible rfl)
    try simp only [Act.put, sA, sB, sC, sD, sE, sF]
    refine tk 25 ?_ rfl (by kernel_rfl) (fun _ _ _ h => h) ‹_› (by rfl) ?_ ?_
    rotate_left
    · (intro w' hSw; (try dsimp only at hSw); go_simp; try with_reducible rfl)
    try simp only [Act.put, sA, sB, sC, sD, sE, sF]
    refine wpAnyT_one (i := 26) rfl (by kernel_rfl) (fun K hK => ?_)
    go_simp
    refine (TR.out _).mono ?_
    rintro e w8 ⟨rfl, rfl⟩
    refine hK.out _ _ (hHeld) (fun hHeld => ?_)
    clear hK K
    try simp only [Act.put, sA, sB, sC, sD, sE, sF]
    refine tk 27 ?_ rfl (by kernel_rfl) (fun _ _ _ h => h) ‹_› (by rfl) ?_ ?_
    rotate_left
    · (intro w' hSw; (try dsimp only at hSw); go_simp; try with_reducible rfl)
    try simp only [Act.put, sA, sB, sC, sD, sE, sF]
    refine tk 28 ?_ rfl (by kernel_rfl) (fun _ _ _ h => h) ‹_› (by rfl) ?_ ?_
    rotate_left
    · (intro w' hSw; (try dsimp only at hSw); go_simp; try with_reducible rfl)
    try simp only [Act.put, sA, sB, sC, sD, sE, sF]
    refine tk 29 ?_ rfl (by kernel_rfl) (fun _ _ _ h => h) ‹_› (by rfl) ?_ ?_
    rotate_left
    · (intro w' hSw; (try dsimp only at hSw); go_simp; try with_reducible rfl)
    try simp only [Act.put, sA, sB, sC, sD, sE, sF]
    refine tk 30 ?_ rfl (by kernel_rfl) (fun _ _ _ h => h) ‹_› (by rfl) ?_ ?_
    rotate_left
    · (intro w' hSw; (try dsimp only at hSw); go_simp; try with_reducible rfl)
    try simp only [Act.put, sA, sB, sC, sD, sE, sF]
    refine tk 31 ?_ rfl (by kernel_rfl) (fun _ _ _ h => h) ‹_› (by rfl) ?_ ?_
    rotate_left
    · (intro w' hSw; (try dsimp only at hSw); go_simp; try with_reducible rfl)
    try simp only [Act.put, sA, sB, sC, sD, sE, sF]
    refine tk 32 ?_ rfl (by kernel_rfl) (fun _ _ _ h => h) ‹_› (by rfl) ?_ ?_
    rotate_left
    · (intro w' hSw; (try dsimp only at hSw); go_simp; try with_reducible rfl)
    try simp only [Act.put, sA, sB, sC, sD, sE, sF]
    refine tk 33 ?_ rfl (by kernel_rfl) (fun _ _ _ h => h) ‹_› (by rfl) ?_ ?_
    rotate_left
    · (intro w' hSw; (try dsimp only at hSw); go_simp; try with_reducible rfl)
    try simp only [Act.put, sA, sB, sC, sD, sE, sF]
    refine tk 34 ?_ rfl (by kernel_rfl) (fun _ _ _ h => h) ‹_› (by rfl) ?_ ?_
    rotate_left
    · (intro w' hSw; (try dsimp only at hSw); go_simp; try with_reducible rfl)
    try simp only [Act.put, sA, sB, sC, sD, sE, sF]
    refine tk 35 ?_ rfl (by kernel_rfl) (fun _ _ _ h => h) ‹_› (by rfl) ?_ ?_
    rotate_left
    · (intro w' hSw; (try dsimp only at hSw); go_simp; try with_reducible rfl)
    try simp only [Act.put, sA, sB, sC, sD, sE, sF]
    refine tk 36 ?_ rfl (by kernel_rfl) (fun _ _ _ h => h) ‹_› (by rfl) ?_ ?_
    rotate_left
    · (intro w' hSw; (try dsimp only at hSw); go_simp; try with_reducible rfl)
    try simp only [Act.put, sA, sB, sC, sD, sE, sF]
    refine tk 37 ?_ rfl (by kernel_rfl) (fun _ _ _ h => h) ‹_› (by rfl) ?_ ?_
    rotate_left
    · (intro w' hSw; (try dsimp only at hSw); go_simp; try with_reducible rfl)
    try simp only [Act.put, sA, sB, sC, sD, sE, sF]
    refine wpAnyT_one (i := 38) rfl (by kernel_rfl) (fun K hK => ?_)
    go_simp
    refine Calls.mono (TQ.out _ (by first | exact HBc.out | exact HBc.out.drew | exact HBc.out.drew.drew)) ?_
    rintro e w7 ⟨rfl, hb5⟩
    have HBc := Lib.hid (show Below A.heap.size A w7 from by first | exact HBc.out.trans (hb5.mono HBc.out.size) | exact HBc.out.drew.trans (hb5.mono HBc.out.drew.size))
    clear hb5 TQ
    refine hK.out _ _ (⟨(HBc.out.cell (p := ⟨w.heap.size, 0, none⟩) hBl).trans hHeld0.1, (HBc.out.cell (p := ⟨blk, 0, none⟩) hbl).trans hHeld0.2.1, (HBc.out.cell (p := ⟨blk, 1, none⟩) hbl).trans hHeld0.2.2.1, (HBc.out.cell (p := ⟨blk, 2, none⟩) hbl).trans hHeld0.2.2.2.1, (HBc.out.cell (p := ⟨blk, 3, none⟩) hbl).trans hHeld0.2.2.2.2.1, (HBc.out.cell (p := ⟨blk, 4, none⟩) hbl).trans hHeld0.2.2.2.2.2.1, (HBc.out.cell (p := ⟨blk, 5, none⟩) hbl).trans hHeld0.2.2.2.2.2.2⟩) (fun hHeld => ?_)
    clear hK K
    try simp only [Act.put, sA, sB, sC, sD, sE, sF]
    refine tk 39 ?_ rfl (by kernel_rfl) (fun _ _ _ h => h) ‹_› (by rfl) ?_ ?_
    rotate_left
    · (intro w' hSw; (try dsimp only at hSw); go_simp; try with_reducible rfl)
    try simp only [Act.put, sA, sB, sC, sD, sE, sF]
    refine tk 40 ?_ rfl (by kernel_rfl) (fun _ _ _ h => h) ‹_› (by rfl) ?_ ?_
    rotate_left
    · (intro w' hSw; (try dsimp only at hSw); go_simp; try with_reducible rfl)
    try simp only [Act.put, sA, sB, sC, sD, sE, sF]
    refine wpAnyT_tail (by kernel_rfl) ?_
    simp only [List.drop_succ_cons, List.drop_zero]
    have HFA : Fr (fun _ => False) A _ := Fr.of_below HBc.out
    clear hHeld hHeld0
    have HFR := Lib.hid HFA
    clear HFA
    go_wp2
    gi_wp2
    exact ⟨S0, ⟨HFR.out.at_ hbx hnx, ⟨r0, HFR.out.at_ hbr hnr⟩, hSv⟩, HFR.out.imp (fun q _ e => e.elim), fun q h => .inl ((hS q).2 (.inl h))⟩
   ·
    have q5 : ((nd.kind : Int) == 5) = false := by simp; omega
    clear k5 hk1 hx1 hrt hre TQ
    gi_wp2
    refine wpIn_region_two (fun w' => w'.cell? ⟨w.heap.size, 0, none⟩ = some (.pointer (some ⟨ab, 0, none⟩)) ∧ w'.cell? ⟨blk, 0, none⟩ = some (.int .u8 (nd.kind : Int)) ∧ w'.cell? ⟨blk, 1, none⟩ = some (strV nd.name) ∧ w'.cell? ⟨blk, 2, none⟩ = some (.int .i64 nd.num) ∧ w'.cell? ⟨blk, 3, none⟩ = some (.int .u8 (nd.type : Int)) ∧ w'.cell? ⟨blk, 4, none⟩ = some (.int .u64 (nd.ref : Int)) ∧ w'.cell? ⟨blk, 5, none⟩ = some (.slice ka nd.kids.length kc)) 41 (by kernel_rfl) (by kernel_rfl) (by rintro ⟨_, _, h⟩; exact h) ?_
    refine tk 0 ?_ rfl (by kernel_rfl) (fun _ _ _ h => h) ‹_› (by rfl) ?_ ?_
    rotate_left
    · (intro w' hSw; (try dsimp only at hSw); go_simp; try with_reducible rfl)
    try simp only [Act.put, sA, sB, sC, sD, sE, sF]
    refine tk 1 ?_ rfl (by kernel_rfl) (fun _ _ _ h => h) ‹_› (by rfl) ?_ ?_
    rotate_left
    · (intro w' hSw; (try dsimp only at hSw); go_simp; try with_reducible rfl)
    try simp only [Act.put, sA, sB, sC, sD, sE, sF]
    refine tk 2 ?_ rfl (by kernel_rfl) (fun _ _ _ h => h) ‹_› (by rfl) ?_ ?_
    rotate_left
    · (intro w' hSw; (try dsimp only at hSw); go_simp; try with_reducible rfl)
    try simp only [Act.put, sA, sB, sC, sD, sE, sF]
    refine tk 3 ?_ rfl (by kernel_rfl) (fun _ _ _ h => h) ‹_› (by rfl) ?_ ?_
    rotate_left
    · (intro w' hSw; (try dsimp only at hSw); go_simp; try with_reducible rfl)
    try simp only [Act.put, sA, sB, sC, sD, sE, sF]
    refine tk 4 ?_ rfl (by kernel_rfl) (fun _ _ _ h => h) ‹_› (by rfl) ?_ ?_
    rotate_left
    · (intro w' hSw; (try dsimp only at hSw); go_simp; try with_reducible rfl)
    try simp only [Act.put, sA, sB, sC, sD, sE, sF]
    refine tk 5 ?_ rfl (by kernel_rfl) (fun _ _ _ h => h) ‹_› (by rfl) ?_ ?_
    rotate_left
    · (intro w' hSw; (try dsimp only at hSw); go_simp; try with_reducible rfl)
    try simp only [Act.put, sA, sB, sC, sD, sE, sF]
    refine tk 6 ?_ rfl (by kernel_rfl) (fun _ _ _ h => h) ‹_› (by rfl) ?_ ?_
    rotate_left
    · (intro w' hSw; (try dsimp only at hSw); go_simp; try with_reducible rfl)
    try simp only [Act.put, sA, sB, sC, sD, sE, sF]
    refine tk 7 ?_ rfl (by kernel_rfl) (fun _ _ _ h => h) ‹_› (by rfl) ?_ ?_
    rotate_left
    · (intro w' hSw; (try dsimp only at hSw); go_simp; try with_reducible rfl)
    try simp only [Act.put, sA, sB, sC, sD, sE, sF]
    refine tk 8 ?_ rfl (by kernel_rfl) (fun _ _ _ h => h) ‹_› (by rfl) ?_ ?_
    rotate_left
    · (intro w' hSw; (try dsimp only at hSw); go_simp; try with_reducible rfl)
    try simp only [Act.put, sA, sB, sC, sD, sE, sF]
    refine tk 9 ?_ rfl (by kernel_rfl) (fun _ _ _ h => h) ‹_› (by rfl) ?_ ?_
    rotate_left
    · (intro w' hSw; (try dsimp only at hSw); go_simp; try with_reducible rfl)
    try simp only [Act.put, sA, sB, sC, sD, sE, sF]
    refine tk 10 ?_ rfl (by kernel_rfl) (fun _ _ _ h => h) ‹_› (by rfl) ?_ ?_
    rotate_left
    · (intro w' hSw; (try dsimp only at hSw); go_simp; try with_reducible rfl)
    try simp only [Act.put, sA, sB, sC, sD, sE, sF]
    refine wpAnyT_one (i := 11) rfl (by kernel_rfl) (fun K hK => ?_)
    go_simp
    refine Calls.mono (TK.out _ (by first | exact HBc.out | exact HBc.out.drew | exact HBc.out.drew.drew)) ?_
    rintro e w5 ⟨rfl, hb5⟩
    have HBc := Lib.hid (show Below A.heap.size A w5 from by first | exact HBc.out.trans (hb5.mono HBc.out.size) | exact HBc.out.drew.trans (hb5.mono HBc.out.drew.size))
    clear hb5 TK
    refine hK.out _ _ (⟨(HBc.out.cell (p := ⟨w.heap.size, 0, none⟩) hBl).trans hHeld0.1, (HBc.out.cell (p := ⟨blk, 0, none⟩) hbl).trans hHeld0.2.1, (HBc.out.cell (p := ⟨blk, 1, none⟩) hbl).trans hHeld0.2.2.1, (HBc.out.cell (p := ⟨blk, 2, none⟩) hbl).trans hHeld0.2.2.2.1, (HBc.out.cell (p := ⟨blk, 3, none⟩) hbl).trans hHeld0.2.2.2.2.1, (HBc.out.cell (p := ⟨blk, 4, none⟩) hbl).trans hHeld0.2.2.2.2.2.1, (HBc.out.cell (p := ⟨blk, 5, none⟩) hbl).trans hHeld0.2.2.2.2.2.2⟩) (fun hHeld => ?_)
    clear hK K
    try simp only [Act.put, sA, sB, sC, sD, sE, sF]
    refine tk 12 ?_ rfl (by kernel_rfl) (fun _ _ _ h => h) ‹_› (by rfl) ?_ ?_
    rotate_left
    · (intro w' hSw; (try dsimp only at hSw); go_simp; try with_reducible rfl)
    try simp only [Act.put, sA, sB, sC, sD, sE, sF]
    refine tk 13 ?_ rfl (by kernel_rfl) (fun _ _ _ h => h) ‹_› (by rfl) ?_ ?_
    rotate_left
    · (intro w' hSw; (try dsimp only at hSw); go_simp; try with_reducible rfl)
    try simp only [Act.put, sA, sB, sC, sD, sE, sF]
    refine tk 14 ?_ rfl (by kernel_rfl) (fun _ _ _ h => h) ‹_› (by rfl) ?_ ?_
    rotate_left
    · (intro w' hSw; (try dsimp only at hSw); go_simp; try with_reducible rfl)
    try simp only [Act.put, sA, sB, sC, sD, sE, sF]
    refine tk 15 ?_ rfl (by kernel_rfl) (fun _ _ _ h => h) ‹_› (by rfl) ?_ ?_
    rotate_left
    · (intro w' hSw; (try dsimp only at hSw); go_simp; try with_reducible rfl)
    try simp only [Act.put, sA, sB, sC, sD, sE, sF]
    refine tk 16 ?_ rfl (by kernel_rfl) (fun _ _ _ h => h) ‹_› (by rfl) ?_ ?_
    rotate_left
    · (intro w' hSw; (try dsimp only at hSw); go_simp; try with_reducible rfl)
    try simp only [Act.put, sA, sB, sC, sD, sE, sF]
    refine wpAnyT_one (i := 17) rfl (by kernel_rfl) (fun K hK => ?_)
    go_simp
    refine Calls.mono (TP.out _ (by first | exact HBc.out | exact HBc.out.drew | exact HBc.out.drew.drew)) ?_
    rintro e w6 ⟨rfl, hb5⟩
    have HBc := Lib.hid (show Below A.heap.size A w6 from by first | exact HBc.out.trans (hb5.mono HBc.out.size) | exact HBc.out.drew.trans (hb5.mono HBc.out.drew.size))
    clear hb5 TP
    refine hK.out _ _ (⟨(HBc.out.cell (p := ⟨w.heap.size, 0, none⟩) hBl).trans hHeld0.1, (HBc.out.cell (p := ⟨blk, 0, none⟩) hbl).trans hHeld0.2.1, (HBc.out.cell (p := ⟨blk, 1, none⟩) hbl).trans hHeld0.2.2.1, (HBc.out.cell (p := ⟨blk, 2, none⟩) hbl).trans hHeld0.2.2.2.1, (HBc.out.cell (p := ⟨blk, 3, none⟩) hbl).trans hHeld0.2.2.2.2.1, (HBc.out.cell (p := ⟨blk, 4, none⟩) hbl).trans hHeld0.2.2.2.2.2.1, (HBc.out.cell (p := ⟨blk, 5, none⟩) hbl).trans hHeld0.2.2.2.2.2.2⟩) (fun hHeld => ?_)
    clear hK K
    try simp only [Act.put, sA, sB, sC, sD, sE, sF]
    refine tk 18 ?_ rfl (by kernel_rfl) (fun _ _ _ h => h) ‹_› (by rfl) ?_ ?_
    rotate_left
    · (intro w' hSw; (try dsimp only at hSw); go_simp; try with_reducible rfl)
    try simp only [Act.put, sA, sB, sC, sD, sE, sF]
    refine tk 19 ?_ rfl (by kernel_rfl) (fun _ _ _ h => h) ‹_› (by rfl) ?_ ?_
    rotate_left
    · (intro w' hSw; (try dsimp only at hSw); go_simp; try with_reducible rfl)
    try simp only [Act.put, sA, sB, sC, sD, sE, sF]
    refine tk 20 ?_ rfl (by kernel_rfl) (fun _ _ _ h => h) ‹_› (by rfl) ?_ ?_
    rotate_left
    · (intro w' hSw; (try dsimp only at hSw); go_simp; try with_reducible rfl)
    try simp only [Act.put, sA, sB, sC, sD, sE, sF]
    refine tk 21 ?_ rfl (by kernel_rfl) (fun _ _ _ h => h) ‹_› (by rfl) ?_ ?_
    rotate_left
    · (intro w' hSw; (try dsimp only at hSw); go_simp; try with_reducible rfl)
    try simp only [Act.put, sA, sB, sC, sD, sE, sF]
    refine tk 22 ?_ rfl (by kernel_rfl) (fun _ _ _ h => h) ‹_› (by rfl) ?_ ?_
    rotate_left
    · (intro w' hSw; (try dsimp only at hSw); go_simp; try with_reducible rfl)
    try simp only [Act.put, sA, sB, sC, sD, sE, sF]
    refine tk 23 ?_ rfl (by kernel_rfl) (fun _ _ _ h => h) ‹_› (by rfl) ?_ ?_
    rotate_left
    · (intro w' hSw; (try dsimp only at hSw); go_simp; try with_reducible rfl)
    try simp only [Act.put, sA, sB, sC, sD, sE, sF]
    refine tk 24 ?_ rfl (by kernel_rfl) (fun _ _ _ h => h) ‹_› (by rfl) ?_ ?_
    rotate_left
    · (intro w' hSw; (try dsimp only at hSw); go_simp; try with_reducible rfl)
    try simp only [Act.put, sA, sB, sC, sD, sE, sF]
    refine tk 25 ?_ rfl (by kernel_rfl) (fun _ _ _ h => h) ‹_› (by rfl) ?_ ?_
    rotate_left
    · (intro w' hSw; (try dsimp only at hSw); go_simp; try with_reducible rfl)
    try simp only [Act.put, sA, sB, sC, sD, sE, sF]
    refine wpAnyT_one (i := 26) rfl (by kernel_rfl) (fun K hK => ?_)
    go_simp
    refine (TR.out _).mono ?_
    rintro e w8 ⟨rfl, rfl⟩
    refine hK.out _ _ (hHeld) (fun hHeld => ?_)
    clear hK K
    try simp only [Act.put, sA, sB, sC, sD, sE, sF]
    refine tk 27 ?_ rfl (by kernel_rfl) (fun _ _ _ h => h) ‹_› (by rfl) ?_ ?_
    rotate_left
    · (intro w' hSw; (try dsimp only at hSw); go_simp; try with_reducible rfl)
    try simp only [Act.put, sA, sB, sC, sD, sE, sF]
    refine tk 28 ?_ rfl (by kernel_rfl) (fun _ _ _ h => h) ‹_› (by rfl) ?_ ?_
    rotate_left
    · (intro w' hSw; (try dsimp only at hSw); go_simp; try with_reducible rfl)
    try simp only [Act.put, sA, sB, sC, sD, sE, sF]
    refine tk 29 ?_ rfl (by kernel_rfl) (fun _ _ _ h => h) ‹_› (by rfl) ?_ ?_
    rotate_left
    · (intro w' hSw; (try dsimp only at hSw); go_simp; try with_reducible rfl)
    try simp only [Act.put, sA, sB, sC, sD, sE, sF]
    refine tk 30 ?_ rfl (by kernel_rfl) (fun _ _ _ h => h) ‹_› (by rfl) ?_ ?_
    rotate_left
    · (intro w' hSw; (try dsimp only at hSw); go_simp; try with_reducible rfl)
    try simp only [Act.put, sA, sB, sC, sD, sE, sF]
    refine tk 31 ?_ rfl (by kernel_rfl) (fun _ _ _ h => h) ‹_› (by rfl) ?_ ?_
    rotate_left
    · (intro w' hSw; (try dsimp only at hSw); go_simp; try with_reducible rfl)
    try simp only [Act.put, sA, sB, sC, sD, sE, sF]
    refine tk 32 ?_ rfl (by kernel_rfl) (fun _ _ _ h => h) ‹_› (by rfl) ?_ ?_
    rotate_left
    · (intro w' hSw; (try dsimp only at hSw); go_simp; try with_reducible rfl)
    try simp only [Act.put, sA, sB, sC, sD, sE, sF]
    refine tk 33 ?_ rfl (by kernel_rfl) (fun _ _ _ h => h) ‹_› (by rfl) ?_ ?_
    rotate_left
    · (intro w' hSw; (try dsimp only at hSw); go_simp; try with_reducible rfl)
    try simp only [Act.put, sA, sB, sC, sD, sE, sF]
    refine tk 34 ?_ rfl (by kernel_rfl) (fun _ _ _ h => h) ‹_› (by rfl) ?_ ?_
    rotate_left
    · (intro w' hSw; (try dsimp only at hSw); go_simp; try with_reducible rfl)
    try simp only [Act.put, sA, sB, sC, sD, sE, sF]
    refine wpAnyT_take (i := 35) rfl (by kernel_rfl) (fun _ _ _ h => h) (by assumption) (Or.inr ⟨by rfl, rfl⟩) ?_
    try simp only [Act.put, sA, sB, sC, sD, sE, sF]
    refine wpAnyT_take (i := 36) rfl (by kernel_rfl) (fun _ _ _ h => h) (by assumption) (Or.inr ⟨by rfl, rfl⟩) ?_
    try simp only [Act.put, sA, sB, sC, sD, sE, sF]
    refine wpAnyT_take (i := 37) rfl (by kernel_rfl) (fun _ _ _ h => h) (by assumption) (Or.inr ⟨by rfl, rfl⟩) ?_
    try simp only [Act.put, sA, sB, sC, sD, sE, sF]
    refine wpAnyT_take (i := 38) rfl (by kernel_rfl) (fun _ _ _ h => h) (by assumption) (Or.inr ⟨by rfl, rfl⟩) ?_
    try simp only [Act.put, sA, sB, sC, sD, sE, sF]
    refine wpAnyT_take (i := 39) rfl (by kernel_rfl) (fun _ _ _ h => h) (by assumption) (Or.inr ⟨by rfl, rfl⟩) ?_
    try simp only [Act.put, sA, sB, sC, sD, sE, sF]
    refine tk 40 ?_ rfl (by kernel_rfl) (fun _ _ _ h => h) ‹_› (by rfl) ?_ ?_
    rotate_left
    · (intro w' hSw; (try dsimp only at hSw); go_simp; try with_reducible rfl)
    try simp only [Act.put, sA, sB, sC, sD, sE, sF]
    refine wpAnyT_tail (by kernel_rfl) ?_
    simp only [List.drop_succ_cons, List.drop_zero]
    have HFA : Fr (fun _ => False) A _ := Fr.of_below HBc.out
    clear hHeld hHeld0
    have HFR := Lib.hid HFA
    clear HFA
    go_wp2
    gi_wp2
    exact ⟨S0, ⟨HFR.out.at_ hbx hnx, ⟨r0, HFR.out.at_ hbr hnr⟩, hSv⟩, HFR.out.imp (fun q _ e => e.elim), fun q h => .inl ((hS q).2 (.inl h))⟩
 case done =>
  rintro S ys W hys ⟨hBx, ⟨r0, hRx⟩, hSv⟩ hK hnS hf
  have hbw : Below w.heap.size w W := HB1.out.trans ((hf.imp (D' := fun q => w.heap.size ≤ q) (fun q _ e => by rcases e with (e | e) | e | e <;> omega)).below' HB1.out.size)
  have hW1W : W1.heap.size < W.heap.size := (Array.getElem?_eq_some_iff.1 hK).1
  have hzw2 : w.heap.size + 2 ≤ W.heap.size := by omega
  have HKD := Lib.hid hK
  have hW1 : w.heap.size + 2 ≤ W1.heap.size := by omega
  clear hys hSv hnS hf hK hzw hzW g0 g1 HB1 HARW hseq
  have hzw := hzw2
  clear hzw2
  gi_wp2
  refine wpIn_wide.2 (wp_calm ?_)
  have e0 := cell_of_row W w.heap.size 0 _ _ (0, 0) hBx
  simp at e0
  have hHeld : (fun w' => w'.cell? ⟨w.heap.size, 0, none⟩ = some (.pointer (some ⟨ab, 0, none⟩))) (W).drew := e0
  refine wp_region_two (fun w' => w'.cell? ⟨w.heap.size, 0, none⟩ = some (.pointer (some ⟨ab, 0, none⟩))) 3 (by kernel_rfl) ?_
  refine tk 0 ?_ rfl (by kernel_rfl) (fun _ _ _ h => h) ‹_› (by rfl) ?_ ?_
  rotate_left
  · (intro w' hSw; (try dsimp only at hSw); go_simp; try with_reducible rfl)
  try simp only [Act.put, sA, sB, sC, sD, sE, sF]
  refine tk 1 ?_ rfl (by kernel_rfl) (fun _ _ _ h => h) ‹_› (by rfl) ?_ ?_
  rotate_left
  · (intro w' hSw; (try dsimp only at hSw); go_simp; try with_reducible rfl)
  try simp only [Act.put, sA, sB, sC, sD, sE, sF]
  refine wpAnyT_one (i := 2) rfl (by kernel_rfl) (fun K hK => ?_)
  go_simp
  refine (TR.out _).mono ?_
  rintro e w1 ⟨rfl, rfl⟩
  refine hK.out _ _ (hHeld) (fun hHeld => ?_)
  clear hK K
  try simp only [Act.put, sA, sB, sC, sD, sE, sF]
  refine wpAnyT_tail (by kernel_rfl) ?_
  simp only [List.drop_succ_cons, List.drop_zero]
  go_wp2_with fail
  refine (TW.out _).mono ?_
  rintro e w1 ⟨rfl, rfl⟩
  have hdz : (W).drew.heap.size = (W).heap.size := rfl
  obtain ⟨hbW, k1, k2, hzW⟩ := two_new (W).drew (.cells #[.pointer (some ⟨ab, 0, none⟩)] 24) (.cells #[idV 1] 45)
  rw [hdz] at hbW k1 k2 hzW ⊢
  generalize World.alloc (World.alloc (W).drew _) _ = W2 at hbW k1 k2 hzW ⊢
  have hbW : Below (W).heap.size W W2 := ((Below.refl _ _).drew).trans hbW
  generalize hnz : (W).heap.size = nz at hbW k1 k2 hzW hzw ⊢
  have g0 : (W2).heap[w.heap.size]? = some (.cells #[.pointer (some ⟨ab, 0, none⟩)] 24 (0, 0)) := (hbW.block _ (by omega)).trans hBx
  have g1 : (W2).heap[w.heap.size + 1]? = some (.cells #[r0] 4 (0, 0)) := (hbW.block _ (by omega)).trans hRx
  have hb1 : Below w.heap.size w W2 := hbw.trans (hbW.mono (by omega))
  have hseq := walk_seq ab mb c M w.heap.size 1 (nz + 1) nz F xs W2 (fun W' hf => HAR.out.below (hb1.trans (hf.below' (by omega))) (Nat.le_refl _)) (cell_of_row W2 (nz + 1) 0 _ _ (0, 0) k2) (cell_of_row W2 nz 0 _ _ (0, 0) k1) ⟨by omega, by omega, by omega, by omega⟩ (by decide) HKB.out HSH.out.walk HSH.out.f
  have HB1 := Lib.hid hb1
  have HARW := Lib.hid (show ∀ W', Fr (fun q => w.heap.size ≤ q) W2 W' → ArOk W' ab M from fun W' hf => HA.out.below (hb1.trans (hf.below' (by omega))))
  have HBN := Lib.hid (And.intro hnz hbW)
  clear k1 k2 hHeld hBx hRx hbw hbW e0 hb1 hdz hnz
  go_wp2
  gi_wp2
  have hne0 : W.heap.size ≠ W1.heap.size := by omega
  refine wpIn_walk (gf := 92) rfl (enters_of Tryz.func92 (by kernel_rfl) rfl) hseq (Fr.refl _ _) rfl (fun q h => by rcases h with h | h <;> omega) (by omega)
   (fun S _ A => BoxI ab w.heap.size S A) (fun _ _ _ _ => False) (fun S _ x a A => ShQ ab w.heap.size S x a A) (fun S pre A A' h hf => h.fr hf) (fun _ _ _ _ _ h _ => h) ?hI1z (fun S pre A h q hq => (h.lt q hq).2) ?hI1lz
   (fun q => q = w.heap.size ∨ q = w.heap.size + 1) ⟨g0, ⟨_, g1⟩, fun q => Iff.rfl⟩ (fun q e => by rcases e with e | e <;> subst e <;> exact ⟨by omega, by omega, by omega⟩) ?assignz ?bodyz ?donez ?stopz
  case hI1z =>
   rintro S pre x a A A' ⟨S0, blk, hi, ha, hb, hS, hn⟩ hf
   exact ⟨S0, blk, hi.fr (hf.imp (fun q _ h h' => h (.inl ((hS q).2 (.inl h'))))), ha, hf.at_ hb (fun h => h (.inl ((hS blk).2 (.inr rfl)))), hS, hn⟩
  case hI1lz =>
   rintro S pre x a A ⟨S0, blk, hi, ha, hb, hS, hn⟩ q hq
   rcases (hS q).1 hq with h | h
   ·
    exact (hi.lt q h).2
   ·
    subst h; exact (Array.getElem?_eq_some_iff.1 hb).1
  case assignz =>
   intro l m S pre x A K hi hpre hx hkb hf hK
   gi_wp2
   refine hK (fun q => S q ∨ q = A.heap.size) _ _ ⟨S, A.heap.size, hi.fr ((Fr.refl _ _).alloc _), ?_, heap_alloc_new A _, fun q => Iff.rfl, fun h => by have := (hi.lt _ h).2; omega⟩ ((Fr.refl _ _).alloc _) (fun q h => h.imp (fun h => h) (fun h => by omega))
   exact ⟨_, _, _, _, _, _, _, _, _, _, _, _, _, _, _, _, _, _, _, _, _, _, _, _, _, _, _, _, _, _, _, _, _, _, _, _, _, _, _, _, _, _, _, _, _, _, _, _, _, _, _, _, _, _, _, _, _, _, _, _, _, _, _, _, _, _, _, _, _, rfl⟩
  case bodyz =>
   rintro l m S pre x a1 A ⟨S0, blk, ⟨hbx, ⟨r0, hbr⟩, hSv⟩, ha, hb, hS, hn⟩ hpre hf
   obtain ⟨u0, u3, u4, u7, u8, u9, u10, u11, u12, u13, u14, u15, u16, u17, u18, u19, u20, u21, u22, u23, u24, u25, u26, u27, u28, u29, u30, u31, u32, u33, u34, u35, u36, u37, u38, u39, u40, u41, u42, u43, u44, u45, u46, u47, u48, u49, u50, u51, u52, u53, u54, u55, u56, u57, u58, u59, u60, u61, u62, u63, u64, u65, u66, u67, u68, u69, u70, u71, u72, rfl⟩ := ha
   have hxm : x.strip ∈ xs := hpre.subset (by simp)
   have hf2 : Fr (fun q => w.heap.size ≤ q) W2 A := hf.imp (fun q _ e => by rcases e with (e | e) | e | e <;> omega)
   have hAA := HARW.out A hf2
   have hid := HSH.out.id _ hxm
   have hdp := HSH.out.deep _ hxm
   obtain ⟨xi, nd, ka, kc⟩ := x
   have hid : xi < idTop := hid
   have hdp : nd.kind = 3 → depthK M 201 xi ≤ 90 := hdp
   have TD := Lib.hid (depth_any ab M 201 (by omega) A xi hAA hid)
   have hbl := (Array.getElem?_eq_some_iff.1 hb).1
   have hnx : ¬ (fun _ : Nat => False) w.heap.size := fun h => h
   have hnr : ¬ (fun _ : Nat => False) (w.heap.size + 1) := fun h => h
   have eB := cell_of_row A w.heap.size 0 _ _ (0, 0) hbx
   have y0 := cell_of_row A blk 0 _ _ (0, 0) hb
   simp at eB y0
   clear hpre hf hf2 hAA hxm
   by_cases k3 : nd.kind = 3
   ·
    have q3 : ((nd.kind : Int) == 3) = true := by simp [k3]
    have hd9 := hdp k3
    generalize depthK M 201 xi = d at TD hd9
    have qd : decide ((90 : Int) < (d : Int)) = false := by simp; omega
    have qd2 : decide (90 < d) = false := by simp; omega
    clear k3 hdp hd9
    gi_wp2_with fail
    refine ⟨trivial, fun h => (by cases h), (CallsIn.inRound l (callsIn_wide.2 TD.out)).mono ?_⟩
    rintro e w5 ⟨rfl, hb5⟩
    have HFA : Fr (fun _ => False) A w5 := Fr.of_below hb5
    clear hb5 TD
    have HFR := Lib.hid HFA
    clear HFA
    gi_wp2
    exact ⟨S0, ⟨HFR.out.at_ hbx hnx, ⟨r0, HFR.out.at_ hbr hnr⟩, hSv⟩, HFR.out.imp (fun q _ e => e.elim), fun q h => .inl ((hS q).2 (.inl h))⟩
   ·
    have q3 : ((nd.kind : Int) == 3) = false := by simp; omega
    clear k3 hdp TD
    have HFA : Fr (fun _ => False) A A := Fr.refl _ _
    gi_wp2_with fail
    refine ⟨trivial, ?_⟩
    have HFR := Lib.hid HFA
    clear HFA
    gi_wp2
    exact ⟨S0, ⟨HFR.out.at_ hbx hnx, ⟨r0, HFR.out.at_ hbr hnr⟩, hSv⟩, HFR.out.imp (fun q _ e => e.elim), fun q h => .inl ((hS q).2 (.inl h))⟩
  case donez =>
   rintro S ys W3 hys ⟨hbx, ⟨r0, hbr⟩, hSv⟩ hK hnS hf
   have eB := cell_of_row W3 (w.heap.size + 1) 0 _ _ (0, 0) hbr
   simp at eB
   have fB : W3.frozen? ⟨w.heap.size + 1, 0, none⟩ = false := by simp [World.frozen?, hbr]
   have hl2 := (Array.getElem?_eq_some_iff.1 hbr).1
   have hkW : W2.heap[W1.heap.size]? = some (.deferred (some [])) := (HBN.out.2.block _ (by have := HBN.out.1; omega)).trans HKD.out
   have hkW3 : W3.heap[W1.heap.size]? = some (.deferred (some [])) := hf.at_ hkW (fun e => by have := HBN.out.1; rcases e with (e | e) | e | e <;> omega)
   have hne2 : ¬ w.heap.size + 1 = W2.heap.size := by omega
   have hne1 : ¬ w.heap.size + 1 = W1.heap.size := by omega
   have hne3 : ¬ W1.heap.size = W2.heap.size := by have := HBN.out.1; omega
   have hK2 : (W3.setCell ⟨w.heap.size + 1, 0, none⟩ (.bool true)).heap[W2.heap.size]? = some (.deferred (some [])) := (Below.heap_setCell W3 ⟨w.heap.size + 1, 0, none⟩ (.bool true) W2.heap.size (fun e => hne2 e.symm)).trans hK
   have hK1 : (W3.setCell ⟨w.heap.size + 1, 0, none⟩ (.bool true)).heap[W1.heap.size]? = some (.deferred (some [])) := (Below.heap_setCell W3 ⟨w.heap.size + 1, 0, none⟩ (.bool true) W1.heap.size (fun e => hne1 e.symm)).trans hkW3
   have hfs := hf.set (p := ⟨w.heap.size + 1, 0, none⟩) (.inl (.inl (.inr rfl))) (.bool true)
   have hbs : (W3.setCell ⟨w.heap.size + 1, 0, none⟩ (.bool true)).heap[w.heap.size + 1]? = some (.cells #[.bool true] 4 (0, 0)) := heap_setCell_same hbr _
   have hpf := putObj_fr (W3.setCell ⟨w.heap.size + 1, 0, none⟩ (.bool true)) W2.heap.size (.deferred none)
   have hK3 := hpf.at_ hK1 hne3
   have hbs2 := hpf.at_ hbs hne2
   have hpg := putObj_fr ((W3.setCell ⟨w.heap.size + 1, 0, none⟩ (.bool true)).putObj W2.heap.size (.deferred none)) W1.heap.size (.deferred none)
   have hcell : (((W3.setCell ⟨w.heap.size + 1, 0, none⟩ (.bool true)).putObj W2.heap.size (.deferred none)).putObj W1.heap.size (.deferred none)).cell? ⟨w.heap.size + 1, 0, none⟩ = some (.bool true) := by
    have := cell_of_row _ (w.heap.size + 1) 0 _ _ (0, 0) (hpg.at_ hbs2 hne1)
    simpa using this
   have HFIN := Lib.hid (show Below w.heap.size w (((W3.setCell ⟨w.heap.size + 1, 0, none⟩ (.bool true)).putObj W2.heap.size (.deferred none)).putObj W1.heap.size (.deferred none)) from by
    have h1 := HB1.out.trans ((hfs.imp (D' := fun q => w.heap.size ≤ q) (fun q _ e => by rcases e with (e | e) | e | e <;> omega)).below' HB1.out.size)
    have h2 := h1.trans ((hpf.imp (D' := fun q => w.heap.size ≤ q) (fun q _ e => by omega)).below' h1.size)
    exact h2.trans ((hpg.imp (D' := fun q => w.heap.size ≤ q) (fun q _ e => by omega)).below' h2.size))
   clear hbx hbr hSv hf hfs hbs hpf hpg hbs2 hK hnS hkW hkW3 hK1
   gi_wp2
   refine ⟨by simp, .inl ⟨_, _, rfl, run_takeDeferred hK2, ⟨by simp, .inl ⟨_, _, rfl, run_takeDeferred hK3, ?_⟩⟩⟩⟩
   refine ⟨.bool true, ?_, rfl, HFIN.out⟩
   simp [results, Tryz.results25, go_sem, hcell]
  case stopz =>
   intro c S pre W hpre h
   exact h.elim
 case stop =>
  intro c S pre W hpre h
  exact h.elim
end Go.Proofs.YtoelmnamlnbdhaaGreatDoor
