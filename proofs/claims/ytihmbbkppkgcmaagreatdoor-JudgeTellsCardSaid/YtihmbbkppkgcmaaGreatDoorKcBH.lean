/-
  Part of a proof: contracts of functions that the claim reaches, and plain lemmas.
-/
import Derived.Test.YtihmbbkppkgcmaaGreatDoorKcBG
import Derived.Test.YtihmbbkppkgcmaaGreatDoorKcAE
import Derived.Test.YtihmbbkppkgcmaaGreatDoorKcAH
set_option linter.all false
namespace Go.Proofs.YtihmbbkppkgcmaaGreatDoor
open Go.RowKit
def PaAt (w : World) (pb : Nat) (L : List Hg.Tok) (k : Nat) : Prop :=
 ∃ a c, w.heap[pb]? = some (.cells #[.slice a L.length c, .int .i64 (k : Int), .int .i64 0, .bool false] 89 (0, 0)) ∧ Sl w pb (.slice a L.length c) L.length (L.flatMap tokCells)
theorem PaAt.lt {w : World} {pb k : Nat} {L : List Hg.Tok} (h : PaAt w pb L k) : pb < w.heap.size := by
 obtain ⟨a, c, h, _⟩ := h
 exact (Array.getElem?_eq_some_iff.1 h).1
theorem PaAt.keep {w w' : World} {pb k : Nat} {L : List Hg.Tok} (h : PaAt w pb L k) (hb : Below (pb + 1) w w') : PaAt w' pb L k := by
 obtain ⟨a, c, h, hs⟩ := h
 exact ⟨a, c, (hb.block pb (by omega)).trans h, hs.below hb (by omega)⟩
theorem PaAt.set {w : World} {pb k j : Nat} {L : List Hg.Tok} (h : PaAt w pb L k) : PaAt (w.setCell ⟨pb, 1, none⟩ (.int .i64 (j : Int))) pb L j := by
 obtain ⟨a, c, h, hs⟩ := h
 exact ⟨a, c, heap_setCell_same h _, hs.setCell (Nat.le_refl _) _⟩
theorem PaAt.read {w : World} {pb k : Nat} {L : List Hg.Tok} (h : PaAt w pb L k) : ∃ a c, w.cell? ⟨pb, 0, none⟩ = some (.slice a L.length c) ∧ w.cell? ⟨pb, 1, none⟩ = some (.int .i64 (k : Int)) ∧ w.cell? ⟨pb, 2, none⟩ = some (.int .i64 0) ∧ w.cell? ⟨pb, 3, none⟩ = some (.bool false) ∧
 (∀ i, w.frozen? ⟨pb, i, none⟩ = false) ∧ Sl w pb (.slice a L.length c) L.length (L.flatMap tokCells) := by
 obtain ⟨a, c, h, hs⟩ := h
 have hc := fun i => cell_of_row w pb i _ _ (0, 0) h
 exact ⟨a, c, hc 0, hc 1, hc 2, hc 3, fun i => by simp [World.frozen?, h], hs⟩
def tkAt (L : List Hg.Tok) (k : Nat) : Hg.Tok := L.getD k ⟨0, [], 0⟩
theorem tkAt_get {L : List Hg.Tok} {k : Nat} (h : k < L.length) : L[k]? = some (tkAt L k) := by simp [tkAt, h]
def tkIs (L : List Hg.Tok) (k : Nat) (s : List UInt8) : Bool := (tkAt L k).text == s && (decide ((tkAt L k).kind = 3) || decide ((tkAt L k).kind = 4))
theorem set3_below {w w1 : World} {B g : Nat} (h : Below B w w1) (hg : B ≤ g) (u0 u1 u2 : Value) : Below B w (((w1.setCell ⟨g, 0, none⟩ u0).setCell ⟨g, 1, none⟩ u1).setCell ⟨g, 2, none⟩ u2) :=
 ((h.setCell (p := ⟨g, 0, none⟩) hg _).setCell (p := ⟨g, 1, none⟩) hg _).setCell (p := ⟨g, 2, none⟩) hg _
set_option maxHeartbeats 2000000 in
set_option maxRecDepth 100000 in
theorem now_any (pb k : Nat) (L : List Hg.Tok) (w : World) (hP : PaAt w pb L k) (hk : k < L.length) (hL : L.length ≤ 1000000) :
 Calls Tryz.prog 97 #[.pointer (some ⟨pb, 0, none⟩)] w fun e w' => e = .returned (tokV (tkAt L k)) ∧ Below w.heap.size w w' := by
 obtain ⟨a, c, c0, c1, c2, c3, f0, hs⟩ := hP.read
 obtain ⟨b, o, rfl, hbp, t0, t1, t2⟩ := hs.tokAt (tkAt_get hk)
 have hlt := hP.lt
 have hd : decide (k < L.length) = true := by simpa using hk
 have hd1 : decide (L.length ≤ k) = false := by simpa using hk
 have hd2 : decide ((L.length : Int) ≤ (k : Int)) = false := by simp; omega
 have hi2 : (k : Int) < (L.length : Int) := by omega
 generalize tkAt L k = t at t0 t1 t2 ⊢
 clear hs hP
 go_enter Tryz.func97, Tryz.ntmps97
 go_wp2
 go_quiet (fail)
 go_wp2
 have hb1 : Below w.heap.size w (w.alloc (.cells #[.int .u8 0, .string ⟨#[]⟩, .int .i64 0] 126)) := (Below.refl _ _).alloc (Nat.le_refl _) _
 have hh1 := heap_alloc_new w (.cells #[.int .u8 0, .string ⟨#[]⟩, .int .i64 0] 126)
 generalize World.alloc w _ = w1 at hb1 hh1 ⊢
 have hbw : b < w.heap.size := by omega
 have hHeld : (fun w' : World => w'.cell? ⟨pb, 0, none⟩ = some (.slice (some ⟨b, o, none⟩) L.length c) ∧ w'.cell? ⟨pb, 1, none⟩ = some (.int .i64 (k : Int)) ∧ w'.cell? ⟨b, o + k * 3, none⟩ = some (.int .u8 (t.kind : Int)) ∧ w'.cell? ⟨b, o + k * 3 + 1, none⟩ = some (strV t.text) ∧ w'.cell? ⟨b, o + k * 3 + 2, none⟩ = some (.int .i64 (t.pos : Int))) (w1.drewN nq).drew :=
  ⟨(hb1.cell hlt).trans c0, (hb1.cell hlt).trans c1, (hb1.cell (p := ⟨b, _, none⟩) hbw).trans t0, (hb1.cell (p := ⟨b, _, none⟩) hbw).trans t1, (hb1.cell (p := ⟨b, _, none⟩) hbw).trans t2⟩
 have cc := fun i => cell_of_row w1 w.heap.size i _ _ (0, 0) hh1
 have z0 := cc 0; have z1 := cc 1; have z2 := cc 2
 simp at z0 z1 z2
 have f2 : ∀ i, w1.frozen? ⟨w.heap.size, i, none⟩ = false := fun i => by simp [World.frozen?, hh1]
 clear cc hh1
 refine wp_region_two (fun w' => w'.cell? ⟨pb, 0, none⟩ = some (.slice (some ⟨b, o, none⟩) L.length c) ∧ w'.cell? ⟨pb, 1, none⟩ = some (.int .i64 (k : Int)) ∧ w'.cell? ⟨b, o + k * 3, none⟩ = some (.int .u8 (t.kind : Int)) ∧ w'.cell? ⟨b, o + k * 3 + 1, none⟩ = some (strV t.text) ∧ w'.cell? ⟨b, o + k * 3 + 2, none⟩ = some (.int .i64 (t.pos : Int))) 10 (by kernel_rfl) ?_
 refine tk 0 ?_ rfl (by kernel_rfl) (fun _ _ _ h => h) ‹_› ?_ ?_ (tk 1 ?_ rfl (by kernel_rfl) (fun _ _ _ h => h) ‹_› ?_ ?_ (tk 2 ?_ rfl (by kernel_rfl) (fun _ _ _ h => h) ‹_› ?_ ?_ (tk 3 ?_ rfl (by kernel_rfl) (fun _ _ _ h => h) ‹_› ?_ ?_ (tk 4 ?_ rfl (by kernel_rfl) (fun _ _ _ h => h) ‹_› ?_ ?_ (tk 5 ?_ rfl (by kernel_rfl) (fun _ _ _ h => h) ‹_› ?_ ?_ (tk 6 ?_ rfl (by kernel_rfl) (fun _ _ _ h => h) ‹_› ?_ ?_ (tk 7 ?_ rfl (by kernel_rfl) (fun _ _ _ h => h) ‹_› ?_ ?_ (tk 8 ?_ rfl (by kernel_rfl) (fun _ _ _ h => h) ‹_› ?_ ?_ (tk 9 ?_ rfl (by kernel_rfl) (fun _ _ _ h => h) ‹_› ?_ ?_ ?_)))))))))
 all_goals try (first | rfl | ((try simp only [Act.put, sA, sB, sC]); intro w' hSw; (try dsimp only at hSw); go_simp; try with_reducible rfl))
 try simp only [Act.put, sA, sB, sC]
 refine wpAnyT_tail (by kernel_rfl) ?_
 simp only [List.drop_succ_cons, List.drop_zero]
 go_wp2
 exact bodyPost_ret (v := tokV t) (by simp [results, Tryz.results97, go_sem, z0, z1, z2, f2]) rfl ⟨rfl, set3_below (below_drewN hb1 _) (Nat.le_refl _) _ _ _⟩
theorem is_any (pb k : Nat) (L : List Hg.Tok) (s : List UInt8) (w : World) (hP : PaAt w pb L k) (hk : k < L.length) (hL : L.length ≤ 1000000) :
 Calls Tryz.prog 98 #[.pointer (some ⟨pb, 0, none⟩), strV s] w fun e w' => e = .returned (.bool (tkIs L k s)) ∧ Below w.heap.size w w' := by
 have TN := Lib.hid (now_any pb k L w hP hk hL)
 unfold tkIs
 generalize tkAt L k = t at TN ⊢
 have q3 : ((t.kind : Int) == 3) = decide (t.kind = 3) := by rw [Bool.eq_iff_iff]; simp; omega
 have q4 : ((t.kind : Int) == 4) = decide (t.kind = 4) := by rw [Bool.eq_iff_iff]; simp; omega
 clear hP
 cases h1 : (t.text == s) with
 | false =>
   go_enter Tryz.func98, Tryz.ntmps98
   go_wp2_with (go_at_call 97; refine TN.out.mono ?_; rintro e w1 ⟨rfl, hb1⟩)
   go_ret
   exact ⟨by simp, hb1.alloc hb1.size _⟩
 | true =>
   cases h3 : decide (t.kind = 3) with
   | true =>
     rw [h3] at q3
     clear h3 q4
     go_enter Tryz.func98, Tryz.ntmps98
     go_wp2_with (go_at_call 97; refine TN.out.mono ?_; rintro e w1 ⟨rfl, hb1⟩)
     go_ret
     exact ⟨by simp, hb1.alloc hb1.size _⟩
   | false =>
     rw [h3] at q3
     clear h3
     generalize decide (t.kind = 4) = d4 at q4 ⊢
     cases d4 with
     | true =>
       go_enter Tryz.func98, Tryz.ntmps98
       go_wp2_with (go_at_call 97; refine TN.out.mono ?_; rintro e w1 ⟨rfl, hb1⟩)
       go_ret
       exact ⟨by simp, hb1.alloc hb1.size _⟩
     | false =>
       go_enter Tryz.func98, Tryz.ntmps98
       go_wp2_with (go_at_call 97; refine TN.out.mono ?_; rintro e w1 ⟨rfl, hb1⟩)
       go_ret
       exact ⟨by simp, hb1.alloc hb1.size _⟩
theorem below_grown50 {w w' : World} (h : Below w.heap.size w w') (row : Option Nat) : w.grownBy w' row := ⟨h.os, h.tape, h.output, h.size, fun k hk _ => h.block k hk⟩
theorem take_yes (pb k : Nat) (L : List Hg.Tok) (s : List UInt8) (w : World) (hP : PaAt w pb L k) (hk : k < L.length) (hL : L.length ≤ 1000000) (h : tkIs L k s = true) :
 Calls Tryz.prog 60 #[.pointer (some ⟨pb, 0, none⟩), strV s] w fun e w' => e = .returned (.bool true) ∧ PaAt w' pb L (k + 1) ∧ w.grownBy w' (some pb) := by
 have TI := is_any pb k L s w hP hk hL
 rw [h] at TI
 have TI := Lib.hid TI
 have HP := Lib.hid hP
 have hlt := hP.lt
 clear hP h
 have hw1 : IntKind.i64.wrap ((k : Int) + 1) = (k : Int) + 1 := IntWalk.i64_in _ (by omega)
 go_enter Tryz.func60, Tryz.ntmps60
 go_wp2_with fail
 refine TI.out.mono ?_
 rintro e w1 ⟨rfl, hb1⟩
 have hP1 := HP.out.keep (hb1.mono hlt)
 obtain ⟨a, c, c0, c1, c2, c3, f0, hs⟩ := hP1.read
 have HP2 := Lib.hid (hP1.set (j := k + 1))
 have HG := Lib.hid (below_grown50 hb1 (some pb))
 clear hs hP1 hb1
 go_wp2
 go_ret
 exact ⟨rfl, HP2.out, grown_set HG.out 1 _⟩
theorem take_no (pb k : Nat) (L : List Hg.Tok) (s : List UInt8) (w : World) (hP : PaAt w pb L k) (hk : k < L.length) (hL : L.length ≤ 1000000) (h : tkIs L k s = false) :
 Calls Tryz.prog 60 #[.pointer (some ⟨pb, 0, none⟩), strV s] w fun e w' => e = .returned (.bool false) ∧ Below w.heap.size w w' := by
 have TI := is_any pb k L s w hP hk hL
 rw [h] at TI
 have TI := Lib.hid TI
 clear hP h
 go_enter Tryz.func60, Tryz.ntmps60
 go_wp2_with (go_at_call 98; refine TI.out.mono ?_; rintro e w1 ⟨rfl, hb1⟩)
 go_ret
 exact ⟨rfl, hb1⟩
end Go.Proofs.YtihmbbkppkgcmaaGreatDoor
namespace Go.Proofs.YtihmbbkppkgcmaaGreatDoor
open Go.RowKit
set_option maxHeartbeats 2000000 in
set_option maxRecDepth 100000 in
theorem want_any (pb : Nat) (L : List Hg.Tok) (hL : L.length ≤ 1000000) (k : Nat) (v : Value) (ts : List (List UInt8)) (w : World) (hP : PaAt w pb L k) (hv : Sl w w.heap.size v ts.length (ts.map strV)) (hvb : v.ownBlock ≠ some pb)
 (hk : k + ts.length ≤ L.length) (h : ∀ j, (hj : j < ts.length) → tkIs L (k + j) ts[j] = true) :
 Calls Tryz.prog 58 #[.pointer (some ⟨pb, 0, none⟩), v] w fun e w' => e = .returned (.tuple #[]) ∧ PaAt w' pb L (k + ts.length) ∧ w.grownBy w' (some pb) := by
 have HP := Lib.hid hP
 obtain ⟨a, c, rfl⟩ := hv.form
 have HV := Lib.hid hv
 have HVB := Lib.hid hvb
 have HH := Lib.hid h
 have hg0 := Lib.hid (grown_refl w (some pb))
 clear hP hv hvb h
 go_enter Tryz.func58, Tryz.ntmps58
 go_wp2
 go_loopw [8] (fun p wr => ∃ j : Nat, p = .int .i64 (j : Int) ∧ j ≤ ts.length ∧ PaAt wr pb L (k + j) ∧ w.grownBy wr (some pb)) (fun p wr => ts.length - (intOf p).toNat)
 case atStart => exact ⟨0, rfl, Nat.zero_le _, HP.out, hg0.out⟩
 case round =>
  obtain ⟨j, rfl, hj, hp, hg⟩ := hrel
  clear hg0
  by_cases hlt : j < ts.length
  ·
   have hs2 := HV.out.grown (Nat.le_refl _) hg (fun g hg => by injection hg with hg; rw [← hg]; exact HVB.out)
   obtain ⟨b, o, rfl, _, hc⟩ := hs2.strAt hlt
   have TK := Lib.hid (take_yes pb (k + j) L ts[j] wr hp (by omega) hL (HH.out j hlt))
   have HG := Lib.hid hg
   clear hs2 hp hg
   go_wp2_with (go_at_call 60; refine TK.out.mono ?_; rintro e w1 ⟨rfl, hp1, hg1⟩; have HP1 := Lib.hid hp1; have HG1 := Lib.hid hg1; clear hp1 hg1)
   go_roundw
   case rel => exact ⟨j + 1, by go_num, by omega, HP1.out, grown_trans HG.out HG1.out⟩
   case measure => simp [intOf]; omega
  ·
   have hje : j = ts.length := by omega
   have HJ := Lib.hid hje
   have HPP := Lib.hid hp
   have HG := Lib.hid hg
   have hq : decide (j < ts.length) = false := by simpa using hlt
   have hq2 : decide ((j : Int) < (ts.length : Int)) = false := by simp; omega
   clear hje hp hg hlt
   go_wp2
   go_end0
   exact ⟨rfl, by rw [← HJ.out]; exact HPP.out, HG.out⟩
theorem name_any (pb k : Nat) (L : List Hg.Tok) (w : World) (hP : PaAt w pb L k) (hk : k < L.length) (hL : L.length ≤ 1000000) (h : (tkAt L k).kind = 1) :
 Calls Tryz.prog 59 #[.pointer (some ⟨pb, 0, none⟩)] w fun e w' => e = .returned (strV (tkAt L k).text) ∧ PaAt w' pb L (k + 1) ∧ w.grownBy w' (some pb) := by
 have TN := Lib.hid (now_any pb k L w hP hk hL)
 generalize tkAt L k = t at TN h ⊢
 have HP := Lib.hid hP
 have hlt := hP.lt
 have hq : ((t.kind : Int) != 1) = false := by simp [h]
 have HK := Lib.hid h
 clear hP h
 have hw1 : IntKind.i64.wrap ((k : Int) + 1) = (k : Int) + 1 := IntWalk.i64_in _ (by omega)
 go_enter Tryz.func59, Tryz.ntmps59
 go_wp2_with fail
 refine TN.out.mono ?_
 rintro e w1 ⟨rfl, hb1⟩
 have hP1 := HP.out.keep (hb1.mono hlt)
 obtain ⟨a, c, c0, c1, c2, c3, f0, hs⟩ := hP1.read
 have hpw : pb < w1.heap.size := by have := hb1.size; omega
 have HP2 := Lib.hid ((hP1.set (j := k + 1)).keep ((Below.refl _ _).alloc (by simp; omega) (.cells #[.int .u8 (t.kind : Int), strV t.text, .int .i64 (t.pos : Int)] 126)))
 have HG := Lib.hid (grown_below (grown_set (below_grown50 hb1 (some pb)) 1 (.int .i64 ((k + 1 : Nat) : Int))) ((Below.refl _ _).alloc (Nat.le_refl _) (.cells #[.int .u8 (t.kind : Int), strV t.text, .int .i64 (t.pos : Int)] 126)))
 have hne : ¬ w1.heap.size = pb := by omega
 have hne2 : ¬ pb = w1.heap.size := by omega
 clear hs hP1 hb1
 go_wp2
 go_ret
 exact ⟨rfl, HP2.out, HG.out⟩
theorem types_int (pb k : Nat) (L : List Hg.Tok) (w : World) (hP : PaAt w pb L k) (hk : k < L.length) (hL : L.length ≤ 1000000) (h : tkIs L k Hg.wInt = true) :
 Calls Tryz.prog 101 #[.pointer (some ⟨pb, 0, none⟩)] w fun e w' => e = .returned (.int .u8 1) ∧ PaAt w' pb L (k + 1) ∧ w.grownBy w' (some pb) := by
 have TK := Lib.hid (take_yes pb k L Hg.wInt w hP hk hL h)
 clear hP h
 go_enter Tryz.func101, Tryz.ntmps101
 go_wp2_with fail
 refine TK.out.mono ?_
 rintro e w1 ⟨rfl, hp1, hg1⟩
 go_wp2
 go_ret
 exact ⟨rfl, hp1, hg1⟩
theorem list_end (pb k : Nat) (L : List Hg.Tok) (s : List UInt8) (f : Value) (w : World) (hP : PaAt w pb L k) (hk : k < L.length) (hL : L.length ≤ 1000000) (h : tkIs L k s = true) :
 Calls Tryz.prog 99 #[.pointer (some ⟨pb, 0, none⟩), strV s, f] w fun e w' => e = .returned (.tuple #[]) ∧ PaAt w' pb L (k + 1) ∧ w.grownBy w' (some pb) := by
 have TK := Lib.hid (take_yes pb k L s w hP hk hL h)
 clear hP h
 go_enter Tryz.func99, Tryz.ntmps99
 go_wp2_with fail
 refine TK.out.mono ?_
 rintro e w1 ⟨rfl, hp1, hg1⟩
 go_wp2
 exact bodyPost_ret (v := .tuple #[]) (by simp [results, Tryz.results99, go_sem]) rfl ⟨rfl, hp1, hg1⟩
theorem value_any (t : Hg.Tok) (n : Nat) (hn : n < 10) (ht : t.text = [UInt8.ofNat (48 + n)]) (hk : t.kind = 2) (w : World) :
 Calls Tryz.prog 129 #[tokV t] w fun e w' => e = .returned (.int .i64 (n : Int)) ∧ Below w.heap.size w w' := by
 have TP := fun W0 => Lib.hid (parse_small n hn t.text ht W0)
 have hq : ((t.kind : Int) != 2) = false := by simp [hk]
 have HT := Lib.hid ht
 have HK := Lib.hid hk
 have hb0 : Below w.heap.size w (w.alloc (.cells #[.int .u8 (t.kind : Int), strV t.text, .int .i64 (t.pos : Int)] 126)) := (Below.refl _ _).alloc (Nat.le_refl _) _
 clear ht hk
 go_enter Tryz.func129, Tryz.ntmps129
 go_wp2_with fail
 refine (TP _).out.mono ?_
 rintro e w1 ⟨rfl, hb1⟩
 have hb2 := hb0.trans (hb1.mono hb0.size)
 clear hb0 hb1 TP
 go_wp2
 go_ret
 exact ⟨rfl, hb2⟩
end Go.Proofs.YtihmbbkppkgcmaaGreatDoor
namespace Go.Proofs.YtihmbbkppkgcmaaGreatDoor
open Go.RowKit
inductive GT where
 | mk (b : Nat) (nd : Hg.Node) (ks : List GT)
namespace GT
def b : GT → Nat | .mk b _ _ => b
def nd : GT → Hg.Node | .mk _ n _ => n
def ks : GT → List GT | .mk _ _ k => k
mutual
def subs : GT → List GT | .mk b nd ks => .mk b nd ks :: subsL ks
def subsL : List GT → List GT | [] => [] | t :: ts => subs t ++ subsL ts
end
def blocks (t : GT) : List Nat := t.subs.map GT.b
def blocksL (l : List GT) : List Nat := (subsL l).map GT.b
theorem subs_eq (t : GT) : t.subs = t :: subsL t.ks := by cases t; rfl
theorem blocks_eq (t : GT) : t.blocks = t.b :: blocksL t.ks := by cases t; simp [blocks, blocksL, subs, b, ks]
theorem subsL_nil : subsL [] = [] := rfl
theorem subsL_cons (t : GT) (l : List GT) : subsL (t :: l) = t.subs ++ subsL l := rfl
theorem subsL_append : ∀ (l m : List GT), subsL (l ++ m) = subsL l ++ subsL m
 | [], m => rfl
 | t :: l, m => by rw [List.cons_append, subsL_cons, subsL_append l m, subsL_cons, List.append_assoc]
theorem mem_subsL {l : List GT} {k : GT} (h : k ∈ l) : ∀ s ∈ k.subs, s ∈ subsL l := by
 induction l with
 | nil => simp at h
 | cons t l ih =>
   intro s hs
   rw [subsL_cons, List.mem_append]
   rcases List.mem_cons.1 h with h | h
   ·
    subst h; exact .inl hs
   ·
    exact .inr (ih h s hs)
theorem self_mem (t : GT) : t ∈ t.subs := by rw [subs_eq]; simp
theorem len_lt {t k : GT} (h : k ∈ t.ks) : k.subs.length < t.subs.length := by
 rw [subs_eq t]
 have : ∀ (l : List GT), k ∈ l → k.subs.length ≤ (subsL l).length := by
  intro l
  induction l with
  | nil => intro h; simp at h
  | cons x l ih =>
    intro h
    rw [subsL_cons, List.length_append]
    rcases List.mem_cons.1 h with h | h
    ·
     subst h; omega
    ·
     have := ih h; omega
 have := this _ h
 simp; omega
theorem kids_closed : ∀ (n : Nat) (t : GT), t.subs.length ≤ n → ∀ s ∈ t.subs, ∀ k ∈ s.ks, k ∈ t.subs := by
 intro n
 induction n with
 | zero => intro t h; rw [subs_eq] at h; simp at h
 | succ n ih =>
   intro t h s hs k hk
   rw [subs_eq] at hs
   rcases List.mem_cons.1 hs with hs | hs
   ·
    subst hs
    rw [subs_eq]
    exact List.mem_cons_of_mem _ (mem_subsL hk k (self_mem k))
   ·
    have key : ∀ (l : List GT), (∀ x ∈ l, x ∈ t.ks) → s ∈ subsL l → ∃ x ∈ l, s ∈ x.subs := by
     intro l
     induction l with
     | nil => intro _ h; simp [subsL_nil] at h
     | cons x l ih2 =>
       intro hx h
       rw [subsL_cons, List.mem_append] at h
       rcases h with h | h
       ·
        exact ⟨x, by simp, h⟩
       ·
        obtain ⟨y, hy, h'⟩ := ih2 (fun z hz => hx z (by simp [hz])) h
        exact ⟨y, by simp [hy], h'⟩
    obtain ⟨x, hx, hs'⟩ := key t.ks (fun _ h => h) hs
    have := ih x (by have := len_lt hx; omega) s hs' k hk
    rw [subs_eq]
    exact List.mem_cons_of_mem _ (mem_subsL hx k this)
theorem closed (t : GT) : ∀ s ∈ t.subs, ∀ k ∈ s.ks, k ∈ t.subs := kids_closed _ t (Nat.le_refl _)
end GT
@[reducible] def ptrV (t : GT) : Value := .pointer (some ⟨t.b, 0, none⟩)
@[reducible] def gtCells (n : Hg.Node) (kv ts : Value) (id : Nat) : Array Value :=
 #[.int .u8 (n.kind : Int), strV n.name, .int .i64 n.num, .int .u8 (n.type : Int), .int .u64 (n.ref : Int), kv, strV [], strV [], ts, .int .u64 (id : Int)]
def NodeAt (w : World) (ids : Nat → Nat) (κ : Nat → Value) (Z : Nat → Prop) (s : GT) : Prop :=
 ∃ a c, w.heap[s.b]? = some (.cells (gtCells s.nd (κ s.b) (.slice a s.ks.length c) (ids s.b)) 130 (0, 0)) ∧ Sl w w.heap.size (.slice a s.ks.length c) s.ks.length (s.ks.map ptrV) ∧
   ∀ q, (Value.slice a s.ks.length c).ownBlock = some q → Z q
theorem NodeAt.keep {w w' : World} {ids : Nat → Nat} {κ : Nat → Value} {Z : Nat → Prop} {s : GT} {row : Option Nat} (h : NodeAt w ids κ Z s) (hg : w.grownBy w' row) (h1 : row ≠ some s.b) (h2 : ∀ q, row = some q → ¬ Z q) : NodeAt w' ids κ Z s := by
 obtain ⟨a, c, hh, hs, hz⟩ := h
 have hl : s.b < w.heap.size := (Array.getElem?_eq_some_iff.1 hh).1
 exact ⟨a, c, (hg.block s.b hl (fun e => h1 e.symm)).trans hh, (hs.grown (Nat.le_refl _) hg (fun g e e' => h2 g e (hz g e'))).more hg.size, hz⟩
theorem NodeAt.imp {w : World} {ids : Nat → Nat} {κ : Nat → Value} {Z Z' : Nat → Prop} {s : GT} (h : NodeAt w ids κ Z s) (hz : ∀ q, q < w.heap.size → Z q → Z' q) (hne : ∀ q, Z q → q < w.heap.size) : NodeAt w ids κ Z' s := by
 obtain ⟨a, c, hh, hs, hq⟩ := h
 exact ⟨a, c, hh, hs, fun q h => hz q (hne q (hq q h)) (hq q h)⟩
abbrev nilK : Nat → Value := fun _ => .slice none 0 0
abbrev id0 : Nat → Nat := fun _ => 0
structure ForestX (X : Nat → Prop) (lo : Nat) (w : World) (l : List GT) : Prop where
 node : ∀ s ∈ GT.subsL l, NodeAt w id0 nilK (fun q => lo ≤ q ∧ q < w.heap.size ∧ q ∉ GT.blocksL l ∧ ¬ X q) s
 lo : ∀ b ∈ GT.blocksL l, lo ≤ b
 nodup : (GT.blocksL l).Nodup
abbrev ForestIn := ForestX (fun _ => False)
theorem ForestX.nil (X : Nat → Prop) (lo : Nat) (w : World) : ForestX X lo w [] := ⟨fun s h => by simp [GT.subsL_nil] at h, fun b h => by simp [GT.blocksL, GT.subsL_nil] at h, by simp [GT.blocksL, GT.subsL_nil]⟩
theorem ForestX.lt {X : Nat → Prop} {lo : Nat} {w : World} {l : List GT} (h : ForestX X lo w l) : ∀ b ∈ GT.blocksL l, b < w.heap.size := by
 intro b hb
 obtain ⟨s, hs, rfl⟩ := List.mem_map.1 hb
 obtain ⟨a, c, hh, _⟩ := h.node s hs
 exact (Array.getElem?_eq_some_iff.1 hh).1
theorem ForestX.keep {X : Nat → Prop} {lo : Nat} {w w' : World} {l : List GT} {row : Option Nat} (h : ForestX X lo w l) (hg : w.grownBy w' row) (hr : ∀ q, row = some q → q < lo ∨ X q ∧ q ∉ GT.blocksL l) : ForestX X lo w' l := by
 refine ⟨fun s hs => ?_, h.lo, h.nodup⟩
 have hm : s.b ∈ GT.blocksL l := List.mem_map.2 ⟨s, hs, rfl⟩
 have hb := h.lo s.b hm
 have h1 := (h.node s hs).keep hg (fun e => by
  rcases hr _ e with h | h
  ·
   omega
  ·
   exact h.2 hm) (fun q e hz => by
  rcases hr q e with h | h
  ·
   omega
  ·
   exact hz.2.2.2 h.1)
 obtain ⟨a, c, hh, hsl, hq⟩ := h1
 exact ⟨a, c, hh, hsl, fun q e => by have := hq q e; exact ⟨this.1, Nat.lt_of_lt_of_le this.2.1 hg.size, this.2.2⟩⟩
theorem ForestX.fresh {X X' : Nat → Prop} {lo lo' : Nat} {w : World} {l : List GT} (h : ForestX X lo w l) (hl : lo' ≤ lo) (hX : ∀ q, X' q → X q ∨ q < lo ∨ w.heap.size ≤ q) : ForestX X' lo' w l := by
 refine ⟨fun s hs => ?_, fun b hb => Nat.le_trans hl (h.lo b hb), h.nodup⟩
 obtain ⟨a, c, hh, hsl, hq⟩ := h.node s hs
 exact ⟨a, c, hh, hsl, fun q e => by
  have := hq q e
  refine ⟨Nat.le_trans hl this.1, this.2.1, this.2.2.1, fun hx => ?_⟩
  rcases hX q hx with h' | h' | h'
  ·
   exact this.2.2.2 h'
  ·
   omega
  ·
   omega⟩
theorem ForestX.down {X : Nat → Prop} {lo lo' : Nat} {w : World} {l : List GT} (h : ForestX X lo w l) (hl : lo' ≤ lo) : ForestX X lo' w l := h.fresh hl (fun _ h => .inl h)
theorem ForestX.add {X : Nat → Prop} {lo r : Nat} {W W' : World} {l : List GT} {t : GT} (h : ForestX X lo W l) (hg : W.grownBy W' (some r)) (hr : r < lo) (hlo : lo ≤ W.heap.size) (ht : ForestX X W.heap.size W' [t]) : ForestX X lo W' (l ++ [t]) := by
 have hbl : GT.blocksL (l ++ [t]) = GT.blocksL l ++ GT.blocksL [t] := by unfold GT.blocksL; rw [GT.subsL_append, List.map_append]
 have hold := h.lt
 refine ⟨fun s hs => ?_, fun b hb => ?_, ?_⟩
 ·
  rw [GT.subsL_append, List.mem_append] at hs
  rcases hs with hs | hs
  ·
   have hb := h.lo s.b (List.mem_map.2 ⟨s, hs, rfl⟩)
   obtain ⟨a, c, hh, hx, hq⟩ := (h.node s hs).keep hg (fun e => by injection e with e; omega) (fun q e hz => by injection e with e; omega)
   refine ⟨a, c, hh, hx, fun q e => ?_⟩
   obtain ⟨q1, q2, q3, q4⟩ := hq q e
   refine ⟨q1, Nat.lt_of_lt_of_le q2 hg.size, ?_, q4⟩
   rw [hbl, List.mem_append]
   rintro (h' | h')
   ·
    exact q3 h'
   ·
    have := ht.lo q h'; omega
  ·
   obtain ⟨a, c, hh, hx, hq⟩ := ht.node s hs
   refine ⟨a, c, hh, hx, fun q e => ?_⟩
   obtain ⟨q1, q2, q3, q4⟩ := hq q e
   refine ⟨by omega, q2, ?_, q4⟩
   rw [hbl, List.mem_append]
   rintro (h' | h')
   ·
    have := hold q h'; omega
   ·
    exact q3 h'
 ·
  rw [hbl, List.mem_append] at hb
  rcases hb with hb | hb
  ·
   exact h.lo b hb
  ·
   have := ht.lo b hb; omega
 ·
  rw [hbl, List.nodup_append]
  exact ⟨h.nodup, ht.nodup, fun a ha b hb e => by subst e; have := hold a ha; have := ht.lo a hb; omega⟩
theorem GT.subsL_one (b : Nat) (n : Hg.Node) (l : List GT) : GT.subsL [GT.mk b n l] = GT.mk b n l :: GT.subsL l := by rw [GT.subsL_cons, GT.subsL_nil, GT.subs_eq]; simp [GT.ks]
theorem GT.blocksL_one (b : Nat) (n : Hg.Node) (l : List GT) : GT.blocksL [GT.mk b n l] = b :: GT.blocksL l := by unfold GT.blocksL; rw [GT.subsL_one]; rfl
theorem ForestX.over {X X' : Nat → Prop} {lo b : Nat} {w : World} {l : List GT} {n : Hg.Node} {a : Option Addr} {c : Nat} (h : ForestX X lo w l) (hb : b < lo) (hh : w.heap[b]? = some (.cells (gtCells n (.slice none 0 0) (.slice a l.length c) 0) 130 (0, 0)))
 (hs : Sl w w.heap.size (.slice a l.length c) l.length (l.map ptrV)) (hq : ∀ q, (Value.slice a l.length c).ownBlock = some q → b < q ∧ q < w.heap.size ∧ q ∉ GT.blocksL l ∧ ¬ X' q) (hX : ∀ q, X' q → X q ∨ q < lo ∨ w.heap.size ≤ q) : ForestX X' b w [.mk b n l] := by
 have h' := h.fresh (lo' := lo) (Nat.le_refl _) hX
 refine ⟨fun s hx => ?_, fun x hx => ?_, ?_⟩
 ·
  rw [GT.subsL_one] at hx
  rcases List.mem_cons.1 hx with hx | hx
  ·
   subst hx
   refine ⟨a, c, hh, hs, fun q e => ?_⟩
   obtain ⟨q1, q2, q3, q4⟩ := hq q e
   refine ⟨by omega, q2, ?_, q4⟩
   rw [GT.blocksL_one, List.mem_cons]
   rintro (h' | h')
   ·
    omega
   ·
    exact q3 h'
  ·
   obtain ⟨a', c', hh', hs', hq'⟩ := h'.node s hx
   refine ⟨a', c', hh', hs', fun q e => ?_⟩
   obtain ⟨q1, q2, q3, q4⟩ := hq' q e
   refine ⟨by omega, q2, ?_, q4⟩
   rw [GT.blocksL_one, List.mem_cons]
   rintro (h' | h')
   ·
    omega
   ·
    exact q3 h'
 ·
  rw [GT.blocksL_one] at hx
  rcases List.mem_cons.1 hx with hx | hx
  ·
   omega
  ·
   have := h.lo x hx; omega
 ·
  rw [GT.blocksL_one, List.nodup_cons]
  exact ⟨fun hx => by have := h.lo b hx; omega, h.nodup⟩
theorem ForestX.above {X : Nat → Prop} {lo r b : Nat} {W w : World} {l : List GT} {n : Hg.Node} {a : Option Addr} {c : Nat} (h : ForestX X lo W l) (hg : W.grownBy w (some r)) (hr : r < lo) (hlo : lo ≤ W.heap.size) (hb : W.heap.size ≤ b) (hh : w.heap[b]? = some (.cells (gtCells n (.slice none 0 0) (.slice a l.length c) 0) 130 (0, 0)))
 (hs : Sl w w.heap.size (.slice a l.length c) l.length (l.map ptrV)) (hq : ∀ q, (Value.slice a l.length c).ownBlock = some q → W.heap.size ≤ q ∧ q < w.heap.size ∧ q ≠ b ∧ ¬ X q) : ForestX X lo w [.mk b n l] := by
 have hold := h.lt
 refine ⟨fun s hx => ?_, fun x hx => ?_, ?_⟩
 ·
  rw [GT.subsL_one] at hx
  rcases List.mem_cons.1 hx with hx | hx
  ·
   subst hx
   refine ⟨a, c, hh, hs, fun q e => ?_⟩
   obtain ⟨q1, q2, q3, q4⟩ := hq q e
   refine ⟨by omega, q2, ?_, q4⟩
   rw [GT.blocksL_one, List.mem_cons]
   rintro (h' | h')
   ·
    exact q3 h'
   ·
    have := hold q h'; omega
  ·
   have hb' := h.lo s.b (List.mem_map.2 ⟨s, hx, rfl⟩)
   obtain ⟨a', c', hh', hs', hq'⟩ := (h.node s hx).keep hg (fun e => by injection e with e; omega) (fun q e hz => by injection e with e; omega)
   refine ⟨a', c', hh', hs', fun q e => ?_⟩
   obtain ⟨q1, q2, q3, q4⟩ := hq' q e
   refine ⟨by omega, Nat.lt_of_lt_of_le q2 hg.size, ?_, q4⟩
   rw [GT.blocksL_one, List.mem_cons]
   rintro (h' | h')
   ·
    omega
   ·
    exact q3 h'
 ·
  rw [GT.blocksL_one] at hx
  rcases List.mem_cons.1 hx with hx | hx
  ·
   omega
  ·
   exact h.lo x hx
 ·
  rw [GT.blocksL_one, List.nodup_cons]
  exact ⟨fun hx => by have := hold b hx; omega, h.nodup⟩
end Go.Proofs.YtihmbbkppkgcmaaGreatDoor
