/-
  Part of a proof of RunLoops: contracts of functions that the claim reaches, and plain lemmas.
-/
import Derived.Test.YtoelmnamlnbdhaaGreatDoorKfAU
import Derived.Test.YtoelmnamlnbdhaaGreatDoorKfAA
import Derived.Test.YtoelmnamlnbdhaaGreatDoorKfAB
import Derived.Test.YtoelmnamlnbdhaaGreatDoorKfAE
import Derived.Test.YtoelmnamlnbdhaaGreatDoorKfAI
import Derived.Deep.CutRange
set_option linter.all false
namespace Go.Proofs.YtoelmnamlnbdhaaGreatDoor
open Go.RowKit
open Hg (tkAt tkIs tkAt_get)
def PaAt (w : World) (pb : Nat) (L : List Hg.Tok) (k d : Nat) : Prop :=
 (TabOk w ∧ 0 < pb) ∧ ∃ a c, w.heap[pb]? = some (.cells #[.slice a L.length c, .int .i64 (k : Int), .int .i64 (d : Int), .bool false] 40 (0, 0)) ∧ Sl w pb (.slice a L.length c) L.length (L.flatMap tokCells)
theorem PaAt.lt {w : World} {pb k d : Nat} {L : List Hg.Tok} (h : PaAt w pb L k d) : pb < w.heap.size := by
 obtain ⟨_, a, c, h, _⟩ := h
 exact (Array.getElem?_eq_some_iff.1 h).1
theorem PaAt.keep {w w' : World} {pb k d : Nat} {L : List Hg.Tok} (h : PaAt w pb L k d) (hb : Below (pb + 1) w w') : PaAt w' pb L k d := by
 obtain ⟨⟨ht, hp⟩, a, c, h, hs⟩ := h
 exact ⟨⟨ht.below hb (by omega), hp⟩, a, c, (hb.block pb (by omega)).trans h, hs.below hb (by omega)⟩
theorem PaAt.set {w : World} {pb k j d : Nat} {L : List Hg.Tok} (h : PaAt w pb L k d) : PaAt (w.setCell ⟨pb, 1, none⟩ (.int .i64 (j : Int))) pb L j d := by
 obtain ⟨⟨ht, hp⟩, a, c, h, hs⟩ := h
 exact ⟨⟨ht.block (Below.heap_setCell w ⟨pb, 1, none⟩ _ _ (by show ¬ 0 = pb; omega)), hp⟩, a, c, heap_setCell_same h _, hs.setCell (Nat.le_refl _) _⟩
theorem PaAt.read {w : World} {pb k d : Nat} {L : List Hg.Tok} (h : PaAt w pb L k d) : ∃ a c, w.cell? ⟨pb, 0, none⟩ = some (.slice a L.length c) ∧ w.cell? ⟨pb, 1, none⟩ = some (.int .i64 (k : Int)) ∧ w.cell? ⟨pb, 2, none⟩ = some (.int .i64 (d : Int)) ∧ w.cell? ⟨pb, 3, none⟩ = some (.bool false) ∧
 (∀ i, w.frozen? ⟨pb, i, none⟩ = false) ∧ Sl w pb (.slice a L.length c) L.length (L.flatMap tokCells) := by
 obtain ⟨_, a, c, h, hs⟩ := h
 have hc := fun i => cell_of_row w pb i _ _ (0, 0) h
 exact ⟨a, c, hc 0, hc 1, hc 2, hc 3, fun i => by simp [World.frozen?, h], hs⟩
theorem PaAt.tab {w : World} {pb k d : Nat} {L : List Hg.Tok} (h : PaAt w pb L k d) : TabOk w := h.1.1
theorem set3_below {w w1 : World} {B g : Nat} (h : Below B w w1) (hg : B ≤ g) (u0 u1 u2 : Value) : Below B w (((w1.setCell ⟨g, 0, none⟩ u0).setCell ⟨g, 1, none⟩ u1).setCell ⟨g, 2, none⟩ u2) :=
 ((h.setCell (p := ⟨g, 0, none⟩) hg _).setCell (p := ⟨g, 1, none⟩) hg _).setCell (p := ⟨g, 2, none⟩) hg _
set_option maxHeartbeats 2000000 in
set_option maxRecDepth 100000 in
theorem now_any (pb k d : Nat) (L : List Hg.Tok) (w : World) (hP : PaAt w pb L k d) (hk : k < L.length) (hL : L.length ≤ 1000000) :
 Calls Tryz.prog 44 #[.pointer (some ⟨pb, 0, none⟩)] w fun e w' => e = .returned (tokV (tkAt L k)) ∧ Below w.heap.size w w' := by
 obtain ⟨a, c, c0, c1, c2, c3, f0, hs⟩ := hP.read
 obtain ⟨b, o, rfl, hbp, t0, t1, t2⟩ := hs.tokAt (tkAt_get hk)
 have hlt := hP.lt
 have hd : decide (k < L.length) = true := by simpa using hk
 have hd1 : decide (L.length ≤ k) = false := by simpa using hk
 have hd2 : decide ((L.length : Int) ≤ (k : Int)) = false := by simp; omega
 have hi2 : (k : Int) < (L.length : Int) := by omega
 generalize tkAt L k = t at t0 t1 t2 ⊢
 clear hs hP
 go_enter Tryz.func44, Tryz.ntmps44
 go_wp2
 go_quiet (fail)
 go_wp2
 have hb1 : Below w.heap.size w (w.alloc (.cells #[.int .u8 0, .string ⟨#[]⟩, .int .i64 0] 65)) := (Below.refl _ _).alloc (Nat.le_refl _) _
 have hh1 := heap_alloc_new w (.cells #[.int .u8 0, .string ⟨#[]⟩, .int .i64 0] 65)
 generalize World.alloc w _ = w1 at hb1 hh1 ⊢
 have hbw : b < w.heap.size := by omega
 have hHeld : (fun w' : World => w'.cell? ⟨pb, 0, none⟩ = some (.slice (some ⟨b, o, none⟩) L.length c) ∧ w'.cell? ⟨pb, 1, none⟩ = some (.int .i64 (k : Int)) ∧ w'.cell? ⟨b, o + k * 3, none⟩ = some (.int .u8 (t.kind : Int)) ∧ w'.cell? ⟨b, o + k * 3 + 1, none⟩ = some (strV t.text) ∧ w'.cell? ⟨b, o + k * 3 + 2, none⟩ = some (.int .i64 (t.pos : Int))) (w1.drewN nq).drew :=
  ⟨(hb1.cell hlt).trans c0, (hb1.cell hlt).trans c1, (hb1.cell (p := ⟨b, _, none⟩) hbw).trans t0, (hb1.cell (p := ⟨b, _, none⟩) hbw).trans t1, (hb1.cell (p := ⟨b, _, none⟩) hbw).trans t2⟩
 have cc := fun i => cell_of_row w1 w.heap.size i _ _ (0, 0) hh1
 have z0 := cc 0; have z1 := cc 1; have z2 := cc 2
 simp at z0 z1 z2
 have f2 : ∀ i, w1.frozen? ⟨w.heap.size, i, none⟩ = false := fun i => by simp [World.frozen?, hh1]
 clear cc hh1
 refine wp_region_two (fun w' => w'.cell? ⟨pb, 0, none⟩ = some (.slice (some ⟨b, o, none⟩) L.length c) ∧ w'.cell? ⟨pb, 1, none⟩ = some (.int .i64 (k : Int)) ∧ w'.cell? ⟨b, o + k * 3, none⟩ = some (.int .u8 (t.kind : Int)) ∧ w'.cell? ⟨b, o + k * 3 + 1, none⟩ = some (strV t.text) ∧ w'.cell? ⟨b, o + k * 3 + 2, none⟩ = some (.int .i64 (t.pos : Int))) 10 (by kernel_rfl) ?_
 refine tk 0 ?_ rfl (by kernel_rfl) (fun _ _ _ h => h) ‹_› ?_ ?_ (tk 1 ?_ rfl (by kernel_rfl) (fun _ _ _ h => h) ‹_› ?_ ?_ (tk 2 ?_ rfl (by kernel_rfl) (fun _ _ _ h => h) ‹_› ?_ ?_ (tk 3 ?_ rfl (by kernel_rfl) (fun _ _ _ h => h) ‹_› ?_ ?_ (tk 4 ?_ rfl (by kernel_rfl) (fun _ _ _ h => h) ‹_› ?_ ?_ (tk 5 ?_ rfl (by kernel_rfl) (fun _ _ _ h => h) ‹_› ?_ ?_ (tk 6 ?_ rfl (by kernel_rfl) (fun _ _ _ h => h) ‹_› ?_ ?_ (tk 7 ?_ rfl (by kernel_rfl) (fun _ _ _ h => h) ‹_› ?_ ?_ (tk 8 ?_ rfl (by kernel_rfl) (fun _ _ _ h => h) ‹_› ?_ ?_ (tk 9 ?_ rfl (by kernel_rfl) (fun _ _ _ h => h) ‹_› ?_ ?_ ?_)))))))))
 all_goals try (first | rfl | ((try simp only [Act.put, sA, sB, sC]); intro w' hSw; (try dsimp only at hSw); go_simp; try with_reducible rfl))
 try simp only [Act.put, sA, sB, sC]
 refine wpAnyT_tail (by kernel_rfl) ?_
 simp only [List.drop_succ_cons, List.drop_zero]
 go_wp2
 exact bodyPost_ret (v := tokV t) (by simp [results, Tryz.results44, go_sem, z0, z1, z2, f2]) rfl ⟨rfl, set3_below (below_drewN hb1 _) (Nat.le_refl _) _ _ _⟩
theorem is_any (pb k d : Nat) (L : List Hg.Tok) (s : List UInt8) (w : World) (hP : PaAt w pb L k d) (hk : k < L.length) (hL : L.length ≤ 1000000) :
 Calls Tryz.prog 45 #[.pointer (some ⟨pb, 0, none⟩), strV s] w fun e w' => e = .returned (.bool (tkIs L k s)) ∧ Below w.heap.size w w' := by
 have TN := Lib.hid (now_any pb k d L w hP hk hL)
 unfold tkIs
 generalize tkAt L k = t at TN ⊢
 have q3 : ((t.kind : Int) == 3) = decide (t.kind = 3) := by rw [Bool.eq_iff_iff]; simp; omega
 have q4 : ((t.kind : Int) == 4) = decide (t.kind = 4) := by rw [Bool.eq_iff_iff]; simp; omega
 clear hP
 cases h1 : (t.text == s) with
 | false =>
   go_enter Tryz.func45, Tryz.ntmps45
   go_wp2_with (go_at_call 44; refine TN.out.mono ?_; rintro e w1 ⟨rfl, hb1⟩)
   go_ret
   exact ⟨by simp, hb1.alloc hb1.size _⟩
 | true =>
   cases h3 : decide (t.kind = 3) with
   | true =>
     rw [h3] at q3
     clear h3 q4
     go_enter Tryz.func45, Tryz.ntmps45
     go_wp2_with (go_at_call 44; refine TN.out.mono ?_; rintro e w1 ⟨rfl, hb1⟩)
     go_ret
     exact ⟨by simp, hb1.alloc hb1.size _⟩
   | false =>
     rw [h3] at q3
     clear h3
     generalize decide (t.kind = 4) = d4 at q4 ⊢
     cases d4 with
     | true =>
       go_enter Tryz.func45, Tryz.ntmps45
       go_wp2_with (go_at_call 44; refine TN.out.mono ?_; rintro e w1 ⟨rfl, hb1⟩)
       go_ret
       exact ⟨by simp, hb1.alloc hb1.size _⟩
     | false =>
       go_enter Tryz.func45, Tryz.ntmps45
       go_wp2_with (go_at_call 44; refine TN.out.mono ?_; rintro e w1 ⟨rfl, hb1⟩)
       go_ret
       exact ⟨by simp, hb1.alloc hb1.size _⟩
theorem below_grown50 {w w' : World} (h : Below w.heap.size w w') (row : Option Nat) : w.grownBy w' row := ⟨h.os, h.tape, h.output, h.size, fun k hk _ => h.block k hk⟩
theorem take_yes (pb k d : Nat) (L : List Hg.Tok) (s : List UInt8) (w : World) (hP : PaAt w pb L k d) (hk : k < L.length) (hL : L.length ≤ 1000000) (h : tkIs L k s = true) :
 Calls Tryz.prog 21 #[.pointer (some ⟨pb, 0, none⟩), strV s] w fun e w' => e = .returned (.bool true) ∧ PaAt w' pb L (k + 1) d ∧ w.grownBy w' (some pb) := by
 have TI := is_any pb k d L s w hP hk hL
 rw [h] at TI
 have TI := Lib.hid TI
 have HP := Lib.hid hP
 have hlt := hP.lt
 clear hP h
 have hw1 : IntKind.i64.wrap ((k : Int) + 1) = (k : Int) + 1 := IntWalk.i64_in _ (by omega)
 go_enter Tryz.func21, Tryz.ntmps21
 go_wp2_with fail
 refine TI.out.mono ?_
 rintro e w1 ⟨rfl, hb1⟩
 have hP1 := HP.out.keep (hb1.mono hlt)
 obtain ⟨a, c, c0, c1, c2, c3, f0, hs⟩ := hP1.read
 have HP2 := Lib.hid (hP1.set (j := k + 1))
 have HG := Lib.hid (below_grown50 hb1 (some pb))
 clear hs hP1 hb1
 go_wp2
 go_ret
 exact ⟨rfl, HP2.out, grown_set HG.out 1 _⟩
theorem take_no (pb k d : Nat) (L : List Hg.Tok) (s : List UInt8) (w : World) (hP : PaAt w pb L k d) (hk : k < L.length) (hL : L.length ≤ 1000000) (h : tkIs L k s = false) :
 Calls Tryz.prog 21 #[.pointer (some ⟨pb, 0, none⟩), strV s] w fun e w' => e = .returned (.bool false) ∧ Below w.heap.size w w' := by
 have TI := is_any pb k d L s w hP hk hL
 rw [h] at TI
 have TI := Lib.hid TI
 clear hP h
 go_enter Tryz.func21, Tryz.ntmps21
 go_wp2_with (go_at_call 45; refine TI.out.mono ?_; rintro e w1 ⟨rfl, hb1⟩)
 go_ret
 exact ⟨rfl, hb1⟩
set_option maxHeartbeats 2000000 in
set_option maxRecDepth 100000 in
theorem want_any (pb d : Nat) (L : List Hg.Tok) (hL : L.length ≤ 1000000) (k : Nat) (v : Value) (ts : List (List UInt8)) (w : World) (hP : PaAt w pb L k d) (hv : Sl w w.heap.size v ts.length (ts.map strV)) (hvb : v.ownBlock ≠ some pb)
 (hk : k + ts.length ≤ L.length) (h : ∀ j, (hj : j < ts.length) → tkIs L (k + j) ts[j] = true) :
 Calls Tryz.prog 19 #[.pointer (some ⟨pb, 0, none⟩), v] w fun e w' => e = .returned (.tuple #[]) ∧ PaAt w' pb L (k + ts.length) d ∧ w.grownBy w' (some pb) := by
 have HP := Lib.hid hP
 obtain ⟨a, c, rfl⟩ := hv.form
 have HV := Lib.hid hv
 have HVB := Lib.hid hvb
 have HH := Lib.hid h
 have hg0 := Lib.hid (grown_refl w (some pb))
 clear hP hv hvb h
 go_enter Tryz.func19, Tryz.ntmps19
 go_wp2
 go_loopw [8] (fun p wr => ∃ j : Nat, p = .int .i64 (j : Int) ∧ j ≤ ts.length ∧ PaAt wr pb L (k + j) d ∧ w.grownBy wr (some pb)) (fun p wr => ts.length - (intOf p).toNat)
 case atStart => exact ⟨0, rfl, Nat.zero_le _, HP.out, hg0.out⟩
 case round =>
  obtain ⟨j, rfl, hj, hp, hg⟩ := hrel
  clear hg0
  by_cases hlt : j < ts.length
  ·
   have hs2 := HV.out.grown (Nat.le_refl _) hg (fun g hg => by injection hg with hg; rw [← hg]; exact HVB.out)
   obtain ⟨b, o, rfl, _, hc⟩ := hs2.strAt hlt
   have TK := Lib.hid (take_yes pb (k + j) d L ts[j] wr hp (by omega) hL (HH.out j hlt))
   have HG := Lib.hid hg
   clear hs2 hp hg
   go_wp2_with (go_at_call 21; refine TK.out.mono ?_; rintro e w1 ⟨rfl, hp1, hg1⟩; have HP1 := Lib.hid hp1; have HG1 := Lib.hid hg1; clear hp1 hg1)
   go_roundw
   case rel => exact ⟨j + 1, by go_num, by omega, HP1.out, grown_trans HG.out HG1.out⟩
   case measure => simp [intOf]; omega
  ·
   have hje : j = ts.length := by omega
   have HJ := Lib.hid hje
   have HPP := Lib.hid hp
   have HG := Lib.hid hg
   have hq : decide (j < ts.length) = false := by simpa using hlt
   have hq2 : decide ((j : Int) < (ts.length : Int)) = false := by simp; omega
   clear hje hp hg hlt
   go_wp2
   go_end0
   exact ⟨rfl, by rw [← HJ.out]; exact HPP.out, HG.out⟩
theorem name_any (pb k d : Nat) (L : List Hg.Tok) (w : World) (hP : PaAt w pb L k d) (hk : k < L.length) (hL : L.length ≤ 1000000) (h : (tkAt L k).kind = 1) :
 Calls Tryz.prog 20 #[.pointer (some ⟨pb, 0, none⟩)] w fun e w' => e = .returned (strV (tkAt L k).text) ∧ PaAt w' pb L (k + 1) d ∧ w.grownBy w' (some pb) := by
 have TN := Lib.hid (now_any pb k d L w hP hk hL)
 generalize tkAt L k = t at TN h ⊢
 have HP := Lib.hid hP
 have hlt := hP.lt
 have hq : ((t.kind : Int) != 1) = false := by simp [h]
 have HK := Lib.hid h
 clear hP h
 have hw1 : IntKind.i64.wrap ((k : Int) + 1) = (k : Int) + 1 := IntWalk.i64_in _ (by omega)
 go_enter Tryz.func20, Tryz.ntmps20
 go_wp2_with fail
 refine TN.out.mono ?_
 rintro e w1 ⟨rfl, hb1⟩
 have hP1 := HP.out.keep (hb1.mono hlt)
 obtain ⟨a, c, c0, c1, c2, c3, f0, hs⟩ := hP1.read
 have hpw : pb < w1.heap.size := by have := hb1.size; omega
 have HP2 := Lib.hid ((hP1.set (j := k + 1)).keep ((Below.refl _ _).alloc (by simp; omega) (.cells #[.int .u8 (t.kind : Int), strV t.text, .int .i64 (t.pos : Int)] 65)))
 have HG := Lib.hid (grown_below (grown_set (below_grown50 hb1 (some pb)) 1 (.int .i64 ((k + 1 : Nat) : Int))) ((Below.refl _ _).alloc (Nat.le_refl _) (.cells #[.int .u8 (t.kind : Int), strV t.text, .int .i64 (t.pos : Int)] 65)))
 have hne : ¬ w1.heap.size = pb := by omega
 have hne2 : ¬ pb = w1.heap.size := by omega
 clear hs hP1 hb1
 go_wp2
 go_ret
 exact ⟨rfl, HP2.out, HG.out⟩
theorem types_int (pb k d : Nat) (L : List Hg.Tok) (w : World) (hP : PaAt w pb L k d) (hk : k < L.length) (hL : L.length ≤ 1000000) (h : tkIs L k Hg.wInt = true) :
 Calls Tryz.prog 48 #[.pointer (some ⟨pb, 0, none⟩)] w fun e w' => e = .returned (.int .u8 1) ∧ PaAt w' pb L (k + 1) d ∧ w.grownBy w' (some pb) := by
 have TK := Lib.hid (take_yes pb k d L Hg.wInt w hP hk hL h)
 clear hP h
 go_enter Tryz.func48, Tryz.ntmps48
 go_wp2_with fail
 refine TK.out.mono ?_
 rintro e w1 ⟨rfl, hp1, hg1⟩
 go_wp2
 go_ret
 exact ⟨rfl, hp1, hg1⟩
theorem list_end (pb k d : Nat) (L : List Hg.Tok) (s : List UInt8) (f : Value) (w : World) (hP : PaAt w pb L k d) (hk : k < L.length) (hL : L.length ≤ 1000000) (h : tkIs L k s = true) :
 Calls Tryz.prog 46 #[.pointer (some ⟨pb, 0, none⟩), strV s, f] w fun e w' => e = .returned (.tuple #[]) ∧ PaAt w' pb L (k + 1) d ∧ w.grownBy w' (some pb) := by
 have TK := Lib.hid (take_yes pb k d L s w hP hk hL h)
 clear hP h
 go_enter Tryz.func46, Tryz.ntmps46
 go_wp2_with fail
 refine TK.out.mono ?_
 rintro e w1 ⟨rfl, hp1, hg1⟩
 go_wp2
 exact bodyPost_ret (v := .tuple #[]) (by simp [results, Tryz.results46, go_sem]) rfl ⟨rfl, hp1, hg1⟩
theorem types_any (pb k d t : Nat) (L : List Hg.Tok) (w : World) (hP : PaAt w pb L k d) (hL : L.length ≤ 1000000) (h : Hg.gType L k = some t) :
 Calls Tryz.prog 48 #[.pointer (some ⟨pb, 0, none⟩)] w fun e w' => e = .returned (.int .u8 (t : Int)) ∧ PaAt w' pb L (k + 1) d ∧ w.grownBy w' (some pb) := by
 unfold Hg.gType at h
 split at h
 ·
  next h1 =>
  injection h with h; subst h
  exact types_int pb k d L w hP (Hg.tkB_lt h1) hL (Hg.tkB_is h1)
 ·
  next h1 =>
  split at h
  ·
   next h2 =>
   injection h with h; subst h
   have hk := Hg.tkB_lt h2
   have h1 : tkIs L k Hg.wInt = false := by
    have : Hg.tkB L k Hg.wInt = false := by simpa using h1
    simpa [Hg.tkB, hk] using this
   have T1 := Lib.hid (take_no pb k d L Hg.wInt w hP hk hL h1)
   have T2 := Lib.hid (fun W (hb : Below w.heap.size w W) => take_yes pb k d L Hg.wBool W (hP.keep (hb.mono hP.lt)) hk hL (Hg.tkB_is h2))
   clear hP h1 h2
   go_enter Tryz.func48, Tryz.ntmps48
   go_wp2_with fail
   refine T1.out.mono ?_
   rintro e w1 ⟨rfl, hb1⟩
   have HB1 := Lib.hid hb1
   clear hb1
   go_wp2_with fail
   refine (T2.out _ HB1.out).mono ?_
   rintro e w2 ⟨rfl, hp2, hg2⟩
   go_wp2
   go_ret
   exact ⟨rfl, hp2, grown_trans (below_grown50 HB1.out _) hg2⟩
  ·
   cases h
theorem value_any (t : Hg.Tok) (n : Nat) (hn : n < 256) (ht : t.text = Hg.numT n) (hk : t.kind = 2) (w : World) :
 Calls Tryz.prog 84 #[tokV t] w fun e w' => e = .returned (.int .i64 (n : Int)) ∧ Below w.heap.size w w' := by
 have TP := fun W0 => Lib.hid (parse_small n hn t.text ht W0)
 have hq : ((t.kind : Int) != 2) = false := by simp [hk]
 have HT := Lib.hid ht
 have HK := Lib.hid hk
 have hb0 : Below w.heap.size w (w.alloc (.cells #[.int .u8 (t.kind : Int), strV t.text, .int .i64 (t.pos : Int)] 65)) := (Below.refl _ _).alloc (Nat.le_refl _) _
 clear ht hk
 go_enter Tryz.func84, Tryz.ntmps84
 go_wp2_with fail
 refine (TP _).out.mono ?_
 rintro e w1 ⟨rfl, hb1⟩
 have hb2 := hb0.trans (hb1.mono hb0.size)
 clear hb0 hb1 TP
 go_wp2
 go_ret
 exact ⟨rfl, hb2⟩
end Go.Proofs.YtoelmnamlnbdhaaGreatDoor
namespace Hg.GT
def blocks (t : GT) : List Nat := t.subs.map GT.b
def blocksL (l : List GT) : List Nat := (subsL l).map GT.b
theorem subs_eq (t : GT) : t.subs = t :: subsL t.ks := by cases t; rfl
theorem blocks_eq (t : GT) : t.blocks = t.b :: blocksL t.ks := by cases t; simp [blocks, blocksL, subs, GT.b, GT.ks]
theorem subsL_nil : subsL [] = [] := rfl
theorem subsL_cons (t : GT) (l : List GT) : subsL (t :: l) = t.subs ++ subsL l := rfl
theorem subsL_append : ∀ (l m : List GT), subsL (l ++ m) = subsL l ++ subsL m
 | [], m => rfl
 | t :: l, m => by rw [List.cons_append, subsL_cons, subsL_append l m, subsL_cons, List.append_assoc]
theorem mem_subsL {l : List GT} {k : GT} (h : k ∈ l) : ∀ s ∈ k.subs, s ∈ subsL l := by
 induction l with
 | nil => simp at h
 | cons t l ih =>
   intro s hs
   rw [subsL_cons, List.mem_append]
   rcases List.mem_cons.1 h with h | h
   ·
    subst h; exact .inl hs
   ·
    exact .inr (ih h s hs)
theorem self_mem (t : GT) : t ∈ t.subs := by rw [subs_eq]; simp
theorem len_lt {t k : GT} (h : k ∈ t.ks) : k.subs.length < t.subs.length := by
 rw [subs_eq t]
 have : ∀ (l : List GT), k ∈ l → k.subs.length ≤ (subsL l).length := by
  intro l
  induction l with
  | nil => intro h; simp at h
  | cons x l ih =>
    intro h
    rw [subsL_cons, List.length_append]
    rcases List.mem_cons.1 h with h | h
    ·
     subst h; omega
    ·
     have := ih h; omega
 have := this _ h
 simp; omega
theorem kids_closed : ∀ (n : Nat) (t : GT), t.subs.length ≤ n → ∀ s ∈ t.subs, ∀ k ∈ s.ks, k ∈ t.subs := by
 intro n
 induction n with
 | zero => intro t h; rw [subs_eq] at h; simp at h
 | succ n ih =>
   intro t h s hs k hk
   rw [subs_eq] at hs
   rcases List.mem_cons.1 hs with hs | hs
   ·
    subst hs
    rw [subs_eq]
    exact List.mem_cons_of_mem _ (mem_subsL hk k (self_mem k))
   ·
    have key : ∀ (l : List GT), (∀ x ∈ l, x ∈ t.ks) → s ∈ subsL l → ∃ x ∈ l, s ∈ x.subs := by
     intro l
     induction l with
     | nil => intro _ h; simp [subsL_nil] at h
     | cons x l ih2 =>
       intro hx h
       rw [subsL_cons, List.mem_append] at h
       rcases h with h | h
       ·
        exact ⟨x, by simp, h⟩
       ·
        obtain ⟨y, hy, h'⟩ := ih2 (fun z hz => hx z (by simp [hz])) h
        exact ⟨y, by simp [hy], h'⟩
    obtain ⟨x, hx, hs'⟩ := key t.ks (fun _ h => h) hs
    have := ih x (by have := len_lt hx; omega) s hs' k hk
    rw [subs_eq]
    exact List.mem_cons_of_mem _ (mem_subsL hx k this)
theorem closed (t : GT) : ∀ s ∈ t.subs, ∀ k ∈ s.ks, k ∈ t.subs := kids_closed _ t (Nat.le_refl _)
theorem subsL_one (b : Nat) (n : Hg.Node) (md tt : List UInt8) (l : List GT) : GT.subsL [GT.mk b n md tt l] = GT.mk b n md tt l :: GT.subsL l := by rw [GT.subsL_cons, GT.subsL_nil, GT.subs_eq]; simp [GT.ks]
theorem blocksL_one (b : Nat) (n : Hg.Node) (md tt : List UInt8) (l : List GT) : GT.blocksL [GT.mk b n md tt l] = b :: GT.blocksL l := by unfold GT.blocksL; rw [GT.subsL_one]; rfl
end Hg.GT
namespace Go.Proofs.YtoelmnamlnbdhaaGreatDoor
open Go.RowKit
open Hg (GT tkAt tkIs tkAt_get)
@[reducible] def ptrV (t : GT) : Value := .pointer (some ⟨t.b, 0, none⟩)
@[reducible] def gtCells (n : Hg.Node) (md tt : List UInt8) (kv ts : Value) (id : Nat) : Array Value :=
 #[.int .u8 (n.kind : Int), strV n.name, .int .i64 n.num, .int .u8 (n.type : Int), .int .u64 (n.ref : Int), kv, strV md, strV tt, ts, .int .u64 (id : Int)]
def NodeAt (w : World) (ids : Nat → Nat) (κ : Nat → Value) (Z : Nat → Prop) (s : GT) : Prop :=
 ∃ a c, w.heap[s.b]? = some (.cells (gtCells s.nd s.md s.tt (κ s.b) (.slice a s.ks.length c) (ids s.b)) 72 (0, 0)) ∧ Sl w w.heap.size (.slice a s.ks.length c) s.ks.length (s.ks.map ptrV) ∧
   ∀ q, (Value.slice a s.ks.length c).ownBlock = some q → Z q
theorem NodeAt.keep {w w' : World} {ids : Nat → Nat} {κ : Nat → Value} {Z : Nat → Prop} {s : GT} {row : Option Nat} (h : NodeAt w ids κ Z s) (hg : w.grownBy w' row) (h1 : row ≠ some s.b) (h2 : ∀ q, row = some q → ¬ Z q) : NodeAt w' ids κ Z s := by
 obtain ⟨a, c, hh, hs, hz⟩ := h
 have hl : s.b < w.heap.size := (Array.getElem?_eq_some_iff.1 hh).1
 exact ⟨a, c, (hg.block s.b hl (fun e => h1 e.symm)).trans hh, (hs.grown (Nat.le_refl _) hg (fun g e e' => h2 g e (hz g e'))).more hg.size, hz⟩
theorem NodeAt.imp {w : World} {ids : Nat → Nat} {κ : Nat → Value} {Z Z' : Nat → Prop} {s : GT} (h : NodeAt w ids κ Z s) (hz : ∀ q, q < w.heap.size → Z q → Z' q) (hne : ∀ q, Z q → q < w.heap.size) : NodeAt w ids κ Z' s := by
 obtain ⟨a, c, hh, hs, hq⟩ := h
 exact ⟨a, c, hh, hs, fun q h => hz q (hne q (hq q h)) (hq q h)⟩
abbrev nilK : Nat → Value := fun _ => .slice none 0 0
abbrev id0 : Nat → Nat := fun _ => 0
structure ForestX (X : Nat → Prop) (lo : Nat) (w : World) (l : List GT) : Prop where
 node : ∀ s ∈ GT.subsL l, NodeAt w id0 nilK (fun q => lo ≤ q ∧ q < w.heap.size ∧ q ∉ GT.blocksL l ∧ ¬ X q) s
 lo : ∀ b ∈ GT.blocksL l, lo ≤ b
 nodup : (GT.blocksL l).Nodup
abbrev ForestIn := ForestX (fun _ => False)
theorem ForestX.nil (X : Nat → Prop) (lo : Nat) (w : World) : ForestX X lo w [] := ⟨fun s h => by simp [GT.subsL_nil] at h, fun b h => by simp [GT.blocksL, GT.subsL_nil] at h, by simp [GT.blocksL, GT.subsL_nil]⟩
theorem ForestX.lt {X : Nat → Prop} {lo : Nat} {w : World} {l : List GT} (h : ForestX X lo w l) : ∀ b ∈ GT.blocksL l, b < w.heap.size := by
 intro b hb
 obtain ⟨s, hs, rfl⟩ := List.mem_map.1 hb
 obtain ⟨a, c, hh, _⟩ := h.node s hs
 exact (Array.getElem?_eq_some_iff.1 hh).1
theorem ForestX.keep {X : Nat → Prop} {lo : Nat} {w w' : World} {l : List GT} {row : Option Nat} (h : ForestX X lo w l) (hg : w.grownBy w' row) (hr : ∀ q, row = some q → q < lo ∨ X q ∧ q ∉ GT.blocksL l) : ForestX X lo w' l := by
 refine ⟨fun s hs => ?_, h.lo, h.nodup⟩
 have hm : s.b ∈ GT.blocksL l := List.mem_map.2 ⟨s, hs, rfl⟩
 have hb := h.lo s.b hm
 have h1 := (h.node s hs).keep hg (fun e => by
  rcases hr _ e with h | h
  ·
   omega
  ·
   exact h.2 hm) (fun q e hz => by
  rcases hr q e with h | h
  ·
   omega
  ·
   exact hz.2.2.2 h.1)
 obtain ⟨a, c, hh, hsl, hq⟩ := h1
 exact ⟨a, c, hh, hsl, fun q e => by have := hq q e; exact ⟨this.1, Nat.lt_of_lt_of_le this.2.1 hg.size, this.2.2⟩⟩
theorem ForestX.fresh {X X' : Nat → Prop} {lo lo' : Nat} {w : World} {l : List GT} (h : ForestX X lo w l) (hl : lo' ≤ lo) (hX : ∀ q, X' q → X q ∨ q < lo ∨ w.heap.size ≤ q) : ForestX X' lo' w l := by
 refine ⟨fun s hs => ?_, fun b hb => Nat.le_trans hl (h.lo b hb), h.nodup⟩
 obtain ⟨a, c, hh, hsl, hq⟩ := h.node s hs
 exact ⟨a, c, hh, hsl, fun q e => by
  have := hq q e
  refine ⟨Nat.le_trans hl this.1, this.2.1, this.2.2.1, fun hx => ?_⟩
  rcases hX q hx with h' | h' | h'
  ·
   exact this.2.2.2 h'
  ·
   omega
  ·
   omega⟩
theorem ForestX.down {X : Nat → Prop} {lo lo' : Nat} {w : World} {l : List GT} (h : ForestX X lo w l) (hl : lo' ≤ lo) : ForestX X lo' w l := h.fresh hl (fun _ h => .inl h)
theorem ForestX.add {X : Nat → Prop} {lo r : Nat} {W W' : World} {l : List GT} {t : GT} (h : ForestX X lo W l) (hg : W.grownBy W' (some r)) (hr : r < lo) (hlo : lo ≤ W.heap.size) (ht : ForestX X W.heap.size W' [t]) : ForestX X lo W' (l ++ [t]) := by
 have hbl : GT.blocksL (l ++ [t]) = GT.blocksL l ++ GT.blocksL [t] := by unfold GT.blocksL; rw [GT.subsL_append, List.map_append]
 have hold := h.lt
 refine ⟨fun s hs => ?_, fun b hb => ?_, ?_⟩
 ·
  rw [GT.subsL_append, List.mem_append] at hs
  rcases hs with hs | hs
  ·
   have hb := h.lo s.b (List.mem_map.2 ⟨s, hs, rfl⟩)
   obtain ⟨a, c, hh, hx, hq⟩ := (h.node s hs).keep hg (fun e => by injection e with e; omega) (fun q e hz => by injection e with e; omega)
   refine ⟨a, c, hh, hx, fun q e => ?_⟩
   obtain ⟨q1, q2, q3, q4⟩ := hq q e
   refine ⟨q1, Nat.lt_of_lt_of_le q2 hg.size, ?_, q4⟩
   rw [hbl, List.mem_append]
   rintro (h' | h')
   ·
    exact q3 h'
   ·
    have := ht.lo q h'; omega
  ·
   obtain ⟨a, c, hh, hx, hq⟩ := ht.node s hs
   refine ⟨a, c, hh, hx, fun q e => ?_⟩
   obtain ⟨q1, q2, q3, q4⟩ := hq q e
   refine ⟨by omega, q2, ?_, q4⟩
   rw [hbl, List.mem_append]
   rintro (h' | h')
   ·
    have := hold q h'; omega
   ·
    exact q3 h'
 ·
  rw [hbl, List.mem_append] at hb
  rcases hb with hb | hb
  ·
   exact h.lo b hb
  ·
   have := ht.lo b hb; omega
 ·
  rw [hbl, List.nodup_append]
  exact ⟨h.nodup, ht.nodup, fun a ha b hb e => by subst e; have := hold a ha; have := ht.lo a hb; omega⟩
theorem ForestX.over {X X' : Nat → Prop} {lo b : Nat} {w : World} {l : List GT} {n : Hg.Node} {md tt : List UInt8} {a : Option Addr} {c : Nat} (h : ForestX X lo w l) (hb : b < lo) (hh : w.heap[b]? = some (.cells (gtCells n md tt (.slice none 0 0) (.slice a l.length c) 0) 72 (0, 0)))
 (hs : Sl w w.heap.size (.slice a l.length c) l.length (l.map ptrV)) (hq : ∀ q, (Value.slice a l.length c).ownBlock = some q → b < q ∧ q < w.heap.size ∧ q ∉ GT.blocksL l ∧ ¬ X' q) (hX : ∀ q, X' q → X q ∨ q < lo ∨ w.heap.size ≤ q) : ForestX X' b w [.mk b n md tt l] := by
 have h' := h.fresh (lo' := lo) (Nat.le_refl _) hX
 refine ⟨fun s hx => ?_, fun x hx => ?_, ?_⟩
 ·
  rw [GT.subsL_one] at hx
  rcases List.mem_cons.1 hx with hx | hx
  ·
   subst hx
   refine ⟨a, c, hh, hs, fun q e => ?_⟩
   obtain ⟨q1, q2, q3, q4⟩ := hq q e
   refine ⟨by omega, q2, ?_, q4⟩
   rw [GT.blocksL_one, List.mem_cons]
   rintro (h' | h')
   ·
    omega
   ·
    exact q3 h'
  ·
   obtain ⟨a', c', hh', hs', hq'⟩ := h'.node s hx
   refine ⟨a', c', hh', hs', fun q e => ?_⟩
   obtain ⟨q1, q2, q3, q4⟩ := hq' q e
   refine ⟨by omega, q2, ?_, q4⟩
   rw [GT.blocksL_one, List.mem_cons]
   rintro (h' | h')
   ·
    omega
   ·
    exact q3 h'
 ·
  rw [GT.blocksL_one] at hx
  rcases List.mem_cons.1 hx with hx | hx
  ·
   omega
  ·
   have := h.lo x hx; omega
 ·
  rw [GT.blocksL_one, List.nodup_cons]
  exact ⟨fun hx => by have := h.lo b hx; omega, h.nodup⟩
theorem ForestX.above {X : Nat → Prop} {lo r b : Nat} {W w : World} {l : List GT} {n : Hg.Node} {md tt : List UInt8} {a : Option Addr} {c : Nat} (h : ForestX X lo W l) (hg : W.grownBy w (some r)) (hr : r < lo) (hlo : lo ≤ W.heap.size) (hb : W.heap.size ≤ b) (hh : w.heap[b]? = some (.cells (gtCells n md tt (.slice none 0 0) (.slice a l.length c) 0) 72 (0, 0)))
 (hs : Sl w w.heap.size (.slice a l.length c) l.length (l.map ptrV)) (hq : ∀ q, (Value.slice a l.length c).ownBlock = some q → W.heap.size ≤ q ∧ q < w.heap.size ∧ q ≠ b ∧ ¬ X q) : ForestX X lo w [.mk b n md tt l] := by
 have hold := h.lt
 refine ⟨fun s hx => ?_, fun x hx => ?_, ?_⟩
 ·
  rw [GT.subsL_one] at hx
  rcases List.mem_cons.1 hx with hx | hx
  ·
   subst hx
   refine ⟨a, c, hh, hs, fun q e => ?_⟩
   obtain ⟨q1, q2, q3, q4⟩ := hq q e
   refine ⟨by omega, q2, ?_, q4⟩
   rw [GT.blocksL_one, List.mem_cons]
   rintro (h' | h')
   ·
    exact q3 h'
   ·
    have := hold q h'; omega
  ·
   have hb' := h.lo s.b (List.mem_map.2 ⟨s, hx, rfl⟩)
   obtain ⟨a', c', hh', hs', hq'⟩ := (h.node s hx).keep hg (fun e => by injection e with e; omega) (fun q e hz => by injection e with e; omega)
   refine ⟨a', c', hh', hs', fun q e => ?_⟩
   obtain ⟨q1, q2, q3, q4⟩ := hq' q e
   refine ⟨by omega, Nat.lt_of_lt_of_le q2 hg.size, ?_, q4⟩
   rw [GT.blocksL_one, List.mem_cons]
   rintro (h' | h')
   ·
    omega
   ·
    exact q3 h'
 ·
  rw [GT.blocksL_one] at hx
  rcases List.mem_cons.1 hx with hx | hx
  ·
   omega
  ·
   exact h.lo x hx
 ·
  rw [GT.blocksL_one, List.nodup_cons]
  exact ⟨fun hx => by have := hold b hx; omega, h.nodup⟩
end Go.Proofs.YtoelmnamlnbdhaaGreatDoor
namespace Go.Proofs.YtoelmnamlnbdhaaGreatDoor
open Go.RowKit
open Hg (GT tkAt tkIs tkAt_get tkB tkB_lt tkB_is)
theorem PaAt.deep {w : World} {pb k d e : Nat} {L : List Hg.Tok} (h : PaAt w pb L k d) : PaAt (w.setCell ⟨pb, 2, none⟩ (.int .i64 (e : Int))) pb L k e := by
 obtain ⟨⟨ht, hp⟩, a, c, h, hs⟩ := h
 exact ⟨⟨ht.block (Below.heap_setCell w ⟨pb, 2, none⟩ _ _ (by show ¬ 0 = pb; omega)), hp⟩, a, c, heap_setCell_same h _, hs.setCell (Nat.le_refl _) _⟩
set_option maxHeartbeats 2000000 in
set_option maxRecDepth 100000 in
theorem within_any (pb k k' d n : Nat) (cap : Array Value) (L : List Hg.Tok) (R : World → Prop) (w : World) (hP : PaAt w pb L k d) (hd : d < 60)
 (hf : ∀ W, PaAt W pb L k (d + 1) → w.grownBy W (some pb) → Calls Tryz.prog n cap W fun e W' => e = .returned (.tuple #[]) ∧ PaAt W' pb L k' (d + 1) ∧ R W')
 (hR : ∀ W' v, R W' → R (W'.setCell ⟨pb, 2, none⟩ v)) (hn : ∀ W, Sem.run Tryz.prog (callFunc n cap) W = .ok (.enter n cap) W) :
 Calls Tryz.prog 85 #[.pointer (some ⟨pb, 0, none⟩), .func (.func n) #[] cap] w fun e w' => e = .returned (.tuple #[]) ∧ PaAt w' pb L k' d ∧ R w' := by
 have HF := Lib.hid (hf _ (hP.deep (e := d + 1)) (grown_set (grown_refl _ _) 2 _))
 have HR := Lib.hid hR
 obtain ⟨a, c, c0, c1, c2, c3, f0, hs⟩ := hP.read
 have hlt := hP.lt
 have hq : decide ((90 : Int) < ((d : Int) + 1)) = false := by simp; omega
 clear hs hP hf hR
 push_cast at HF
 go_enter Tryz.func85, Tryz.ntmps85
 go_wp2_with fail
 refine HF.out.mono ?_
 rintro e w1 ⟨rfl, hp1, hr1⟩
 obtain ⟨a', c', c0', c1', c2', c3', f0', hs'⟩ := hp1.read
 have HE := Lib.hid (show PaAt (w1.setCell ⟨pb, 2, none⟩ (.int .i64 (d : Int))) pb L k' d ∧ R (w1.setCell ⟨pb, 2, none⟩ (.int .i64 (d : Int))) from ⟨hp1.deep, HR.out _ _ hr1⟩)
 have hlt1 := hp1.lt
 push_cast at c2'
 clear hs' hp1 hr1 HF HR
 go_wp2
 go_end0
 exact ⟨rfl, HE.out⟩
def paK (w : World) (pb : Nat) : Nat := match w.cell? ⟨pb, 1, none⟩ with | some v => (intOf v).toNat | none => 0
theorem PaAt.paK {w : World} {pb k d : Nat} {L : List Hg.Tok} (h : PaAt w pb L k d) : paK w pb = k := by
 obtain ⟨a, c, c0, c1, _⟩ := h.read
 unfold Go.Proofs.YtoelmnamlnbdhaaGreatDoor.paK
 rw [c1]
 simp [intOf]
theorem want1 (pb d : Nat) (L : List Hg.Tok) (hL : L.length ≤ 1000000) (k : Nat) (s : List UInt8) (W : World) (B : Nat) (hB : W.heap.size = B) (hP : PaAt W pb L k d) (h : tkB L k s = true) :
 Calls Tryz.prog 19 #[.pointer (some ⟨pb, 0, none⟩), .slice (some ⟨B, 0, none⟩) 1 1] (W.alloc (.cells #[strV s] 9)) fun e w' => e = .returned (.tuple #[]) ∧ PaAt w' pb L (k + 1) d ∧ W.grownBy w' (some pb) := by
 subst hB
 have hlt := hP.lt
 have hs := Sl.new W 9 1 (#[strV s])
 have hk := tkB_lt h
 refine (want_any pb d L hL k (.slice (some ⟨W.heap.size, 0, none⟩) 1 1) [s] (W.alloc (.cells #[strV s] 9)) (hP.keep ((Below.refl _ _).alloc (by omega) _)) (by simpa using hs) (by simp [Value.ownBlock]; omega) (by simp; omega) (fun j hj => ?_)).mono ?_
 ·
  have : j = 0 := by simp at hj; exact hj
  subst this
  exact tkB_is h
 ·
  rintro e w' ⟨rfl, hp, hg⟩
  exact ⟨rfl, hp, grown_trans (World.grownBy_alloc W _ _) hg⟩
theorem want2 (pb d : Nat) (L : List Hg.Tok) (hL : L.length ≤ 1000000) (k : Nat) (s t : List UInt8) (W : World) (B : Nat) (hB : W.heap.size = B) (hP : PaAt W pb L k d) (h : tkB L k s = true) (h2 : tkB L (k + 1) t = true) :
 Calls Tryz.prog 19 #[.pointer (some ⟨pb, 0, none⟩), .slice (some ⟨B, 0, none⟩) 2 2] (W.alloc (.cells #[strV s, strV t] 9)) fun e w' => e = .returned (.tuple #[]) ∧ PaAt w' pb L (k + 2) d ∧ W.grownBy w' (some pb) := by
 subst hB
 have hlt := hP.lt
 have hs := Sl.new W 9 2 (#[strV s, strV t])
 have hk := tkB_lt h2
 refine (want_any pb d L hL k (.slice (some ⟨W.heap.size, 0, none⟩) 2 2) [s, t] (W.alloc (.cells #[strV s, strV t] 9)) (hP.keep ((Below.refl _ _).alloc (by omega) _)) (by simpa using hs) (by simp [Value.ownBlock]; omega) (by simp; omega) (fun j hj => ?_)).mono ?_
 ·
  have : j = 0 ∨ j = 1 := by simp at hj; omega
  rcases this with rfl | rfl
  ·
   exact tkB_is h
  ·
   exact tkB_is h2
 ·
  rintro e w' ⟨rfl, hp, hg⟩
  exact ⟨rfl, hp, grown_trans (World.grownBy_alloc W _ _) hg⟩
set_option maxHeartbeats 2000000 in
set_option maxRecDepth 100000 in
theorem list_any (pb d n : Nat) (cap : Array Value) (L : List Hg.Tok) (hL : L.length ≤ 1000000) (item : Nat → Option (GT × Nat)) (I : List GT → World → Prop)
 (hn : ∀ W, Sem.run Tryz.prog (callFunc n cap) W = .ok (.enter n cap) W)
 (hI : ∀ l W W', I l W → W.grownBy W' (some pb) → I l W')
 (hf : ∀ l W k a k1, PaAt W pb L k d → I l W → l.length ≤ L.length → item k = some (a, k1) → Calls Tryz.prog n cap W fun e W' => e = .returned (.tuple #[]) ∧ PaAt W' pb L k1 d ∧ I (l ++ [a]) W')
 (hadv : ∀ k a k1, item k = some (a, k1) → k < k1 ∧ k < L.length)
 (k k2 : Nat) (l : List GT) (w : World) (hP : PaAt w pb L k d) (h0 : I [] w) (hl : Hg.gList L item k = some (l, k2)) :
 Calls Tryz.prog 46 #[.pointer (some ⟨pb, 0, none⟩), strV [41], .func (.func n) #[] cap] w fun e w' => e = .returned (.tuple #[]) ∧ PaAt w' pb L k2 d ∧ I l w' := by
 have HI := Lib.hid hI
 have HF := Lib.hid hf
 have HA := Lib.hid hadv
 unfold Hg.gList at hl
 cases hb : tkB L k [41] with
 | true =>
   rw [hb] at hl
   simp only [if_true, Option.some.injEq, Prod.mk.injEq] at hl
   obtain ⟨rfl, rfl⟩ := hl
   refine (list_end pb k d L [41] _ w hP (tkB_lt hb) hL (tkB_is hb)).mono ?_
   rintro e w' ⟨rfl, hp, hg⟩
   exact ⟨rfl, hp, hI _ _ _ h0 hg⟩
 | false =>
   rw [hb] at hl
   simp only [Bool.false_eq_true, if_false] at hl
   have hk : k < L.length := by
    cases hx : L.length with
    | zero => rw [hx] at hl; cases hl
    | succ m =>
      rw [hx] at hl
      unfold Hg.gMore at hl
      cases hit : item k with
      | none => rw [hit] at hl; cases hl
      | some q => have := (hadv k q.1 q.2 hit).2; omega
   have hno : tkIs L k [41] = false := by simpa [tkB, Hg.tkB, hk] using hb
   have TN := Lib.hid (take_no pb k d L [41] w hP hk hL hno)
   have HL := Lib.hid hl
   have HP := Lib.hid hP
   have H0 := Lib.hid h0
   clear hP h0 hl hb hno hI hf hadv
   go_enter Tryz.func46, Tryz.ntmps46
   go_wp2_with fail
   refine TN.out.mono ?_
   rintro e w1 ⟨rfl, hb1⟩
   have HP1 := Lib.hid (HP.out.keep (hb1.mono HP.out.lt))
   have H1 := Lib.hid (HI.out _ _ _ H0.out (below_grown50 hb1 (some pb)))
   clear hb1 TN HP H0
   go_wp2
   go_loopw [9] (fun _ wr => ∃ m k l0 l1, l0.length ≤ k ∧ PaAt wr pb L k d ∧ I l0 wr ∧ Hg.gMore L item m k = some (l1, k2) ∧ l0 ++ l1 = l) (fun _ wr => L.length - paK wr pb)
   case atStart => exact ⟨_, k, [], l, Nat.zero_le _, HP1.out, H1.out, HL.out, rfl⟩
   case round =>
    obtain ⟨m, k, l0, l1, hlk, hp, hi, hm, hll⟩ := hrel
    have HLL := Lib.hid hll
    clear hll HL HP1 H1 hk
    cases m with
    | zero => cases hm
    | succ m =>
      unfold Hg.gMore at hm
      cases hit : item k with
      | none => rw [hit] at hm; cases hm
      | some q =>
        obtain ⟨a, k1⟩ := q
        rw [hit] at hm
        dsimp only at hm
        obtain ⟨ha1, ha2⟩ := HA.out k a k1 hit
        obtain ⟨a', c', c0, c1, c2, c3, f0, hs⟩ := hp.read
        have hlt := hp.lt
        have TF := Lib.hid (HF.out l0 wr k a k1 hp hi (by omega) hit)
        have HLK := Lib.hid hlk
        have HM := Lib.hid hm
        have HK := Lib.hid hp.paK
        clear hs hp hi hit hm hlk
        go_wp2_with fail
        refine TF.out.mono ?_
        rintro e w2 ⟨rfl, hp2, hi2⟩
        have HP2 := Lib.hid hp2
        have HI2 := Lib.hid hi2
        have hm := HM.out
        clear hp2 hi2 TF HM c0 c1 c2 c3 f0 hlt
        cases hb : tkB L k1 [41] with
        | true =>
          rw [hb] at hm
          simp only [if_true, Option.some.injEq, Prod.mk.injEq] at hm
          obtain ⟨rfl, rfl⟩ := hm
          have TT := Lib.hid (take_yes pb k1 d L [41] w2 HP2.out (tkB_lt hb) hL (tkB_is hb))
          clear hb
          go_wp2_with fail
          refine TT.out.mono ?_
          rintro e w3 ⟨rfl, hp3, hg3⟩
          have HE := Lib.hid (And.intro hp3 (HI.out _ _ _ HI2.out hg3))
          clear hp3 hg3 TT
          go_wp2
          exact bodyPost_ret (v := .tuple #[]) (by simp [results, Tryz.results46, go_sem]) rfl ⟨rfl, HE.out.1, by rw [← HLL.out]; exact HE.out.2⟩
        | false =>
          rw [hb] at hm
          simp only [Bool.false_eq_true, if_false] at hm
          cases hb2 : tkB L k1 [44] with
          | false => rw [hb2] at hm; simp at hm
          | true =>
            rw [hb2] at hm
            simp only [if_true] at hm
            have hk1 := tkB_lt hb2
            have hno : tkIs L k1 [41] = false := by simpa [tkB, Hg.tkB, hk1] using hb
            cases hr : Hg.gMore L item m (k1 + 1) with
            | none => rw [hr] at hm; cases hm
            | some q =>
              obtain ⟨l2, k3⟩ := q
              rw [hr] at hm
              simp only [Option.some.injEq, Prod.mk.injEq] at hm
              obtain ⟨rfl, rfl⟩ := hm
              have TN := Lib.hid (take_no pb k1 d L [41] w2 HP2.out hk1 hL hno)
              have TW := Lib.hid (fun W (hp : PaAt W pb L k1 d) => want1 pb d L hL k1 [44] W W.heap.size rfl hp hb2)
              have HR := Lib.hid hr
              clear hb hb2 hno hr
              go_wp2_with fail
              refine TN.out.mono ?_
              rintro e w3 ⟨rfl, hb3⟩
              have HP3 := Lib.hid (HP2.out.keep (hb3.mono HP2.out.lt))
              have HI3 := Lib.hid (HI.out _ _ _ HI2.out (below_grown50 hb3 (some pb)))
              clear hb3 TN
              go_wp2_with fail
              refine (TW.out _ HP3.out).mono ?_
              rintro e w4 ⟨rfl, hp4, hg4⟩
              have HE := Lib.hid (And.intro hp4 (HI.out _ _ _ HI3.out hg4))
              have HK4 := Lib.hid hp4.paK
              clear hp4 hg4 TW
              go_wp2
              go_roundw
              case rel => exact ⟨m, k1 + 1, l0 ++ [a], l2, by have := HLK.out; simp; omega, HE.out.1, HE.out.2, HR.out, by rw [← HLL.out]; simp⟩
              case measure => rw [HK4.out, HK.out]; omega
end Go.Proofs.YtoelmnamlnbdhaaGreatDoor
namespace Go.Proofs.YtoelmnamlnbdhaaGreatDoor
open Go.RowKit
open Hg (GT tkAt tkIs tkAt_get tkB tkB_lt tkB_is)
theorem alloc3 (w : World) (o1 o2 o3 : Obj) : (((w.alloc o1).alloc o2).alloc o3).heap[w.heap.size]? = some o1 ∧ (((w.alloc o1).alloc o2).alloc o3).heap[w.heap.size + 1]? = some o2 ∧ (((w.alloc o1).alloc o2).alloc o3).heap[w.heap.size + 2]? = some o3 ∧
 Below w.heap.size w (((w.alloc o1).alloc o2).alloc o3) ∧ (((w.alloc o1).alloc o2).alloc o3).heap.size = w.heap.size + 3 := by
 have h1 := heap_alloc2_old w o1 o2
 have h2 := heap_alloc2_new w o1 o2
 have h3 := heap_alloc_new ((w.alloc o1).alloc o2) o3
 refine ⟨(heap_alloc_old ((w.alloc o1).alloc o2) o3 (by simp; omega)).trans h1, (heap_alloc_old ((w.alloc o1).alloc o2) o3 (by simp)).trans h2, ?_, (((Below.refl _ _).alloc (Nat.le_refl _) _).alloc (by simp) _).alloc (by simp; omega) _, by simp⟩
 simpa using h3
theorem cell_set_ne {w : World} {p q : Addr} (h : ¬ p.block = q.block) (u : Value) : (w.setCell p u).cell? q = w.cell? q := World.cell?_of_block (Below.heap_setCell w p u q.block (fun e => h e.symm))
theorem grown_at {W W' : World} {r i : Nat} {o : Obj} (hg : W.grownBy W' (some r)) (h : W.heap[i]? = some o) (hi : i ≠ r) : W'.heap[i]? = some o :=
 (hg.block i (Array.getElem?_eq_some_iff.1 h).1 (fun e => by injection e with e; exact hi e)).trans h
theorem new_alloc {W W' : World} {o : Obj} (h : W.alloc o = W') : Below W.heap.size W W' ∧ W'.heap[W.heap.size]? = some o ∧ W'.heap.size = W.heap.size + 1 := by
 subst h
 exact ⟨(Below.refl _ _).alloc (Nat.le_refl _) _, heap_alloc_new W o, by simp⟩
theorem cells_at {w : World} {b : Nat} {u : Value} {t : TypeId} (h : w.heap[b]? = some (.cells #[u] t (0, 0))) : ∀ j x, [u][j]? = some x → w.cell? ((⟨b, 0, none⟩ : Addr).add j) = some x := by
 intro j x hj
 have hadd : (⟨b, 0, none⟩ : Addr).add j = ⟨b, j, none⟩ := by unfold Addr.add; split <;> simp_all
 rw [hadd, cell_of_row w b j #[u] t (0, 0) h]
 simpa using hj
theorem sl_one {w : World} {b : Nat} {u : Value} {t : TypeId} (h : w.heap[b]? = some (.cells #[u] t (0, 0))) : Sl w w.heap.size (.slice (some ⟨b, 0, none⟩) 1 1) 1 [u] := by
 refine ⟨_, _, rfl, fun _ => ⟨b, 0, rfl, (Array.getElem?_eq_some_iff.1 h).1, fun j hj => ?_⟩⟩
 rw [cell_of_row w b (0 + j) #[u] t (0, 0) h]
 have : j = 0 := by simpa using hj
 subst this
 rfl
theorem treeInfo : (Tryz.prog.info? 41).map (fun i => (i.zero, i.size, i.bytes)) = some (some (.pointer none), 1, 8) := by kernel_rfl
structure KidsAt (W : World) (b lo : Nat) (nd : Hg.Node) (md tt : List UInt8) (v : Value) (l : List GT) : Prop where
 hh : W.heap[b]? = some (.cells (gtCells nd md tt (.slice none 0 0) v 0) 72 (0, 0))
 gt : b < lo
 sz : lo ≤ W.heap.size
 own : W.ownsRow lo 41 1 v l.length (l.map ptrV)
 f : ForestX (fun q => v.ownBlock = some q) lo W l
theorem own_not_tree {w : World} {base n q : Nat} {v : Value} {xs : List Value} (h : w.ownsRow base 41 1 v n xs) (hq : v.ownBlock = some q) {cs : Array Value} (hh : w.heap[q]? = some (.cells cs 72 (0, 0))) : False := by
 obtain ⟨_, h2⟩ := h
 rcases h2 with ⟨h0, _⟩ | ⟨g, cap, cur, hv, hg, hh', _⟩
 ·
  rw [h0] at hq; cases hq
 ·
  rw [hv] at hq
  injection hq with hq
  have hq : g = q := hq
  subst hq
  rw [hh] at hh'
  injection hh' with hh'
  injection hh' with _ hh' _
  exact absurd hh' (by decide)
theorem own_not_in {X : Nat → Prop} {w : World} {base lo n : Nat} {v : Value} {xs : List Value} {l : List GT} (h : w.ownsRow base 41 1 v n xs) (hF : ForestX X lo w l) : ∀ q, v.ownBlock = some q → q ∉ GT.blocksL l := by
 intro q hq hm
 obtain ⟨s, hs, rfl⟩ := List.mem_map.1 hm
 obtain ⟨a, c, hh, _⟩ := hF.node s hs
 exact own_not_tree h hq hh
section
variable {W W' : World} {b lo r : Nat} {nd : Hg.Node} {md tt : List UInt8} {v : Value} {l : List GT}
theorem KidsAt.keep (h : KidsAt W b lo nd md tt v l) (hg : W.grownBy W' (some r)) (hr : r < b) : KidsAt W' b lo nd md tt v l :=
 ⟨(hg.block b (Array.getElem?_eq_some_iff.1 h.hh).1 (fun e => by injection e with e; omega)).trans h.hh, h.gt, Nat.le_trans h.sz hg.size, h.own.kept hg (by
   have := h.gt
   cases hv : v.ownBlock with
   | none => exact .inl rfl
   | some q => exact .inr (fun e => by injection e with e; have := (h.own.lt q hv).1; omega)), h.f.keep hg (fun q e => by injection e with e; have := h.gt; exact .inl (by omega))⟩
theorem KidsAt.lt (h : KidsAt W b lo nd md tt v l) : b < W.heap.size := (Array.getElem?_eq_some_iff.1 h.hh).1
theorem KidsAt.new (hh : W.heap[b]? = some (.cells (gtCells nd md tt (.slice none 0 0) (.slice none 0 0) 0) 72 (0, 0))) (hlo : b < lo) (hsz : lo ≤ W.heap.size) : KidsAt W b lo nd md tt (.slice none 0 0) [] :=
 ⟨hh, hlo, hsz, ⟨rfl, .inl ⟨rfl, rfl⟩⟩, ForestX.nil _ _ _⟩
theorem KidsAt.set (h : KidsAt W b lo nd md tt v l) {i : Nat} {u : Value} {nd' : Hg.Node} {md' tt' : List UInt8} (hc : (gtCells nd md tt (.slice none 0 0) v 0).setIfInBounds i u = gtCells nd' md' tt' (.slice none 0 0) v 0) : KidsAt (W.setCell ⟨b, i, none⟩ u) b lo nd' md' tt' v l := by
 have hlo := h.gt
 have hgs : W.grownBy (W.setCell ⟨b, i, none⟩ u) (some b) := grown_set (grown_refl _ _) i u
 refine ⟨?_, hlo, by simpa using h.sz, h.own.kept hgs ?_, h.f.keep hgs (fun q e => by injection e with e; exact .inl (by omega))⟩
 ·
  rw [heap_setCell_same h.hh u, hc]
 ·
  cases hv : v.ownBlock with
  | none => exact .inl rfl
  | some q => exact .inr (fun e => by injection e with e; have := (h.own.lt q hv).1; omega)
theorem KidsAt.grow {W1 Wd W3 : World} {v' : Value} {t : GT} (h : KidsAt W b lo nd md tt v l) (hg : W.grownBy W1 (some r)) (hr : r < b) (ht : ForestIn W.heap.size W1 [t]) (hb : Below W1.heap.size W1 Wd)
 (own3 : W3.ownsRow lo 41 1 v' (l.length + 1) (l.map ptrV ++ [ptrV t])) (g3 : Wd.grownBy W3 v.ownBlock) (at3 : v'.ownBlock = v.ownBlock ∨ v'.ownBlock = some Wd.heap.size) :
 KidsAt (W3.setCell ⟨b, 8, none⟩ v') b lo nd md tt v' (l ++ [t]) := by
 have hlt := h.lt
 have hlo := h.gt
 have hsz := h.sz
 have hX : ∀ q, v.ownBlock = some q → lo ≤ q ∧ q < W.heap.size := h.own.lt
 have h1 := h.keep hg hr
 have F1 : ForestX (fun q => v.ownBlock = some q) lo W1 (l ++ [t]) := h.f.add hg (by omega) (by omega) (ht.fresh (Nat.le_refl _) (fun q hq => .inr (.inl (hX q hq).2)))
 have hgd : W1.grownBy Wd (some r) := below_grown50 hb _
 have h2 := h1.keep hgd hr
 have F2 := F1.keep hgd (fun q e => by injection e with e; exact .inl (by omega))
 have F3 : ForestX (fun q => v.ownBlock = some q ∨ q = Wd.heap.size) lo Wd (l ++ [t]) := F2.fresh (Nat.le_refl _) (fun q hq => by
  rcases hq with hq | hq
  ·
   exact .inl hq
  ·
   exact .inr (.inr (by omega)))
 have hni := own_not_in h2.own F3
 have F4 := F3.keep g3 (fun q e => .inr ⟨.inl e, hni q e⟩)
 have F5 : ForestX (fun q => v'.ownBlock = some q) lo W3 (l ++ [t]) := F4.fresh (Nat.le_refl _) (fun q hq => by
  rcases at3 with e | e
  ·
   exact .inl (.inl (e ▸ hq))
  ·
   rw [e] at hq; injection hq with hq; exact .inl (.inr hq.symm))
 have hbn : v.ownBlock ≠ some b := fun e => by have := hX b e; omega
 have hh3 := (g3.block b (by have := h2.lt; exact this) (fun e => hbn e.symm)).trans h2.hh
 have hgs : W3.grownBy (W3.setCell ⟨b, 8, none⟩ v') (some b) := grown_set (grown_refl _ _) 8 v'
 have hsz3 : lo ≤ W3.heap.size := Nat.le_trans hsz (Nat.le_trans hg.size (Nat.le_trans hb.size g3.size))
 refine ⟨heap_setCell_same hh3 _, hlo, by simpa using hsz3, ?_, F5.keep hgs (fun q e => by injection e with e; exact .inl (by omega))⟩
 have own4 : W3.ownsRow lo 41 1 v' (l ++ [t]).length ((l ++ [t]).map ptrV) := by
  rw [List.length_append, List.map_append]; exact own3
 refine own4.kept hgs ?_
 cases hv : v'.ownBlock with
 | none => exact .inl rfl
 | some q => exact .inr (fun e => by injection e with e; have := (own3.lt q hv).1; omega)
theorem KidsAt.tree (h : KidsAt W b lo nd md tt v l) : ForestIn b W [.mk b nd md tt l] := by
 have hs := Sl.of_own h.own
 have hni := own_not_in h.own h.f
 have hl := h.own.lt
 have hlo := h.gt
 obtain ⟨a, c, rfl⟩ := hs.form
 exact ForestX.over h.f hlo h.hh hs (fun q e => ⟨by have := (hl q e).1; omega, (hl q e).2, hni q e, fun h => h⟩) (fun _ h => h.elim)
theorem KidsAt.cells (h : KidsAt W b lo nd md tt v l) : W.cell? ⟨b, 8, none⟩ = some v ∧ (∀ i, W.frozen? ⟨b, i, none⟩ = false) :=
 ⟨cell_of_row W b 8 _ _ (0, 0) h.hh, fun i => by simp [World.frozen?, h.hh]⟩
end
theorem below_of_own {w w' : World} {B : Nat} {o : Option Nat} (h : w.grownBy w' o) (ho : ∀ q, o = some q → B ≤ q) (hB : B ≤ w.heap.size) : Below B w w' :=
 ⟨h.os, h.tape, h.output, h.size, fun b hb => h.block b (by omega) (fun e => by have := ho b e.symm; omega)⟩
theorem grown_step {w w1 w2 : World} {r o : Option Nat} (h : w.grownBy w1 r) (h' : w1.grownBy w2 o) (ho : ∀ q, o = some q → w.heap.size ≤ q) : w.grownBy w2 r :=
 ⟨h'.os.trans h.os, h'.tape.trans h.tape, h'.output.trans h.output, Nat.le_trans h.size h'.size, fun b hb hne => (h'.block b (Nat.lt_of_lt_of_le hb h.size) (fun e => by have := ho b e.symm; omega)).trans (h.block b hb hne)⟩
theorem era_mk (b : Nat) (nd : Hg.Node) (md tt : List UInt8) (ks : List GT) : (GT.mk b nd md tt ks).era = .mk 0 nd md tt (GT.eraL ks) := rfl
theorem eraL_append : ∀ (l m : List GT), GT.eraL (l ++ m) = GT.eraL l ++ GT.eraL m
 | [], m => rfl
 | t :: l, m => by
   show GT.era t :: GT.eraL (l ++ m) = GT.era t :: (GT.eraL l ++ GT.eraL m)
   rw [eraL_append l m]
theorem eraL_len : ∀ (l : List GT), (GT.eraL l).length = l.length
 | [] => rfl
 | t :: l => by
   show (GT.eraL l).length + 1 = l.length + 1
   rw [eraL_len l]
def PaRes (w : World) (pb : Nat) (L : List Hg.Tok) (k d : Nat) (t0 : GT) (e : Ending) (w' : World) : Prop :=
 ∃ t : GT, e = .returned (ptrV t) ∧ t.era = t0 ∧ ForestIn w.heap.size w' [t] ∧ PaAt w' pb L k d ∧ w.grownBy w' (some pb)
structure TrBox (w : World) (pb fb : Nat) (nd : Hg.Node) (md tt : List UInt8) (W : World) (v : Value) (G : List GT) : Prop where
 gr : w.grownBy W (some pb)
 lt : pb < w.heap.size
 gf : w.heap.size < fb
 box : W.heap[w.heap.size]? = some (.cells #[.pointer (some ⟨pb, 0, none⟩)] 38 (0, 0))
 fp : W.heap[fb + 1]? = some (.cells #[.pointer (some ⟨fb, 0, none⟩)] 41 (0, 0))
 kd : KidsAt W fb (fb + 2) nd md tt v G
section
variable {w W W' : World} {pb fb : Nat} {nd : Hg.Node} {md tt : List UInt8} {v : Value} {G : List GT}
theorem TrBox.keep (h : TrBox w pb fb nd md tt W v G) (hg : W.grownBy W' (some pb)) : TrBox w pb fb nd md tt W' v G := by
 have h1 := h.lt
 have h2 := h.gf
 exact ⟨grown_trans h.gr hg, h1, h2, grown_at hg h.box (by omega), grown_at hg h.fp (by omega), h.kd.keep hg (by omega)⟩
theorem TrBox.cells (h : TrBox w pb fb nd md tt W v G) : W.cell? ⟨w.heap.size, 0, none⟩ = some (.pointer (some ⟨pb, 0, none⟩)) ∧ W.cell? ⟨fb + 1, 0, none⟩ = some (.pointer (some ⟨fb, 0, none⟩)) ∧ W.cell? ⟨fb, 8, none⟩ = some v ∧ (∀ i, W.frozen? ⟨fb, i, none⟩ = false) :=
 ⟨cell_of_row W _ 0 _ _ (0, 0) h.box, cell_of_row W _ 0 _ _ (0, 0) h.fp, h.kd.cells.1, h.kd.cells.2⟩
theorem TrBox.set (h : TrBox w pb fb nd md tt W v G) {i : Nat} {u : Value} {nd' : Hg.Node} {md' tt' : List UInt8} (hc : (gtCells nd md tt (.slice none 0 0) v 0).setIfInBounds i u = gtCells nd' md' tt' (.slice none 0 0) v 0) : TrBox w pb fb nd' md' tt' (W.setCell ⟨fb, i, none⟩ u) v G := by
 have h1 := h.lt
 have h2 := h.gf
 exact ⟨grown_set_new h.gr (p := ⟨fb, i, none⟩) (by show w.heap.size ≤ fb; omega) _, h1, h2, (Below.heap_setCell W ⟨fb, i, none⟩ _ w.heap.size (by show ¬ w.heap.size = fb; omega)).trans h.box,
  (Below.heap_setCell W ⟨fb, i, none⟩ _ (fb + 1) (by show ¬ fb + 1 = fb; omega)).trans h.fp, h.kd.set hc⟩
theorem TrBox.grow {W1 Wd W3 : World} {v' : Value} {t : GT} (h : TrBox w pb fb nd md tt W v G) (hg : W.grownBy W1 (some pb)) (ht : ForestIn W.heap.size W1 [t]) (hb : Below W1.heap.size W1 Wd)
 (own3 : W3.ownsRow (fb + 2) 41 1 v' (G.length + 1) (G.map ptrV ++ [ptrV t])) (g3 : Wd.grownBy W3 v.ownBlock) (at3 : v'.ownBlock = v.ownBlock ∨ v'.ownBlock = some Wd.heap.size) :
 TrBox w pb fb nd md tt (W3.setCell ⟨fb, 8, none⟩ v') v' (G ++ [t]) := by
 have h1 := h.lt
 have h2 := h.gf
 have h3 := (h.keep hg).keep (below_grown50 hb (some pb))
 have hX : ∀ q, v.ownBlock = some q → fb + 2 ≤ q ∧ q < Wd.heap.size := h3.kd.own.lt
 have hz := h3.kd.sz
 have go : ∀ i o, i ≠ fb → i < fb + 2 → Wd.heap[i]? = some o → (W3.setCell ⟨fb, 8, none⟩ v').heap[i]? = some o := fun i o hi hl ho =>
  (Below.heap_setCell W3 ⟨fb, 8, none⟩ _ i (by show ¬ i = fb; omega)).trans ((g3.block i (by omega) (fun e => by have := hX i e.symm; omega)).trans ho)
 refine ⟨grown_set_new (grown_step h3.gr g3 (fun q e => by have := hX q e; omega)) (p := ⟨fb, 8, none⟩) (by show w.heap.size ≤ fb; omega) _, h1, h2, go _ _ (by omega) (by omega) h3.box, go _ _ (by omega) (by omega) h3.fp, h.kd.grow hg (by omega) ht hb own3 g3 at3⟩
theorem TrBox.pa {Wd W3 : World} {L : List Hg.Tok} {k d : Nat} (h : TrBox w pb fb nd md tt Wd v G) (hp : PaAt Wd pb L k d) (g3 : Wd.grownBy W3 v.ownBlock) (u : Value) : PaAt (W3.setCell ⟨fb, 8, none⟩ u) pb L k d := by
 have h1 := h.lt
 have h2 := h.gf
 have hX : ∀ q, v.ownBlock = some q → fb + 2 ≤ q ∧ q < Wd.heap.size := h.kd.own.lt
 exact (hp.keep (below_of_own (B := pb + 1) g3 (fun q e => by have := hX q e; omega) (by have := hp.lt; omega))).keep ((Below.refl _ _).setCell (p := ⟨fb, 8, none⟩) (show pb + 1 ≤ fb by omega) u)
end
end Go.Proofs.YtoelmnamlnbdhaaGreatDoor
