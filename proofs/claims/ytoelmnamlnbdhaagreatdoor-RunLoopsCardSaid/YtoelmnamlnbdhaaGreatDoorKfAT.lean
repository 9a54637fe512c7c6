/-
  Part of a proof of RunLoops: contracts of functions that the claim reaches, and plain lemmas.
-/
import Derived.Test.YtoelmnamlnbdhaaGreatDoorKfAS
import Derived.Lib.AtoiErrMem
import Derived.Lib.AppendIntMem
import Derived.IntWalk
set_option linter.all false
namespace Go.Proofs.YtoelmnamlnbdhaaGreatDoor
open Go.RowKit
@[reducible] def tokV (t : Hg.Tok) : Value := .agg #[.int .u8 (t.kind : Int), strV t.text, .int .i64 (t.pos : Int)]
def NextRes (w : World) (cb : Nat) (s : List UInt8) (t : Hg.Tok) (i : Nat) (e : Ending) (w' : World) : Prop :=
 e = .returned (.tuple #[tokV t, .bool true]) ∧ ScAt w' cb s i ∧ w.grownBy w' (some cb)
theorem grown_set_new {w w2 : World} {row : Option Nat} (h : w.grownBy w2 row) {p : Addr} (hp : w.heap.size ≤ p.block) (u : Value) : w.grownBy (w2.setCell p u) row :=
 ⟨h.os, h.tape, h.output, by simpa using h.size, fun j hj hne => (Below.heap_setCell w2 p u j (by omega)).trans (h.block j hj hne)⟩
theorem ScAt.set_ne {w : World} {cb k : Nat} {s : List UInt8} (h : ScAt w cb s k) {p : Addr} (hp : cb < p.block) (u : Value) : ScAt (w.setCell p u) cb s k :=
 h.keep (Below.heap_setCell w p u cb (by omega))
theorem grown_below {w w1 w2 : World} {row : Option Nat} (h : w.grownBy w1 row) (hb : Below w1.heap.size w1 w2) : w.grownBy w2 row :=
 ⟨hb.os.trans h.os, hb.tape.trans h.tape, hb.output.trans h.output, Nat.le_trans h.size hb.size, fun j hj hne => (hb.block j (Nat.lt_of_lt_of_le hj h.size)).trans (h.block j hj hne)⟩
theorem NextRes.of {w w2 : World} {cb j : Nat} {s : List UInt8} {t : Hg.Tok} (hcb : cb < w.heap.size) (hs : ScAt w2 cb s j) (hg : w.grownBy w2 (some cb)) (u0 u1 u2 : Value) :
 NextRes w cb s t j (.returned (.tuple #[tokV t, .bool true])) (((w2.setCell ⟨w.heap.size, 0, none⟩ u0).setCell ⟨w.heap.size, 1, none⟩ u1).setCell ⟨w.heap.size, 2, none⟩ u2) :=
 ⟨rfl, ((hs.set_ne (p := ⟨w.heap.size, 0, none⟩) hcb _).set_ne (p := ⟨w.heap.size, 1, none⟩) hcb _).set_ne (p := ⟨w.heap.size, 2, none⟩) hcb _,
  grown_set_new (grown_set_new (grown_set_new hg (p := ⟨w.heap.size, 0, none⟩) (Nat.le_refl _) _) (p := ⟨w.heap.size, 1, none⟩) (Nat.le_refl _) _) (p := ⟨w.heap.size, 2, none⟩) (Nat.le_refl _) _⟩
set_option maxHeartbeats 4000000 in
set_option maxRecDepth 100000 in
theorem next_word (cb : Nat) (s W : List UInt8) (k : Nat) (w : World) (hC : ScAt w cb s k) (hl : s.length ≤ 1000000) (hk : k < s.length) (hTab : TabOk w) (hcb : 0 < cb)
 (hp : Hg.isPart s[k] = true) (hw : (s.drop k).takeWhile Hg.isPart = W) (hin : Hg.inL Hg.words W = true) :
 Calls Tryz.prog 18 #[.pointer (some ⟨cb, 0, none⟩)] w (NextRes w cb s ⟨3, W, k⟩ (k + W.length)) := by
 obtain ⟨c0, c1, f0⟩ := hC.read
 have hlt := hC.lt
 have TP := part_any s[k]
 rw [hp] at TP
 have hg0 : w.grownBy (w.alloc (.cells #[.int .u8 0, .string ⟨#[]⟩, .int .i64 0] 65)) (some cb) := World.grownBy_alloc w _ _
 have hC0 : ScAt (w.alloc (.cells #[.int .u8 0, .string ⟨#[]⟩, .int .i64 0] 65)) cb s k := hC.keep ((World.grownBy_alloc w _ none).block cb hlt (by simp))
 have TR := Lib.hid (run_part cb s k _ hC0 (Nat.le_of_lt hk) hl)
 have hnew : ∀ w1, (w.alloc (.cells #[.int .u8 0, .string ⟨#[]⟩, .int .i64 0] 65)).grownBy w1 (some cb) → w1.heap[w.heap.size]? = some (.cells #[.int .u8 0, .string ⟨#[]⟩, .int .i64 0] 65 (0, 0)) :=
  fun w1 h => (h.block w.heap.size (by simp) (fun e => by injection e; omega)).trans (heap_alloc_new w _)
 have HNEW := Lib.hid hnew
 have HG0 := Lib.hid hg0
 have HTAB := Lib.hid (show ∀ w1, w.grownBy w1 (some cb) → TabOk w1 from fun w1 h => hTab.block (h.block _ hTab.lt (fun e => by injection e with e; omega)))
 have HIN := Lib.hid hin
 clear hC hp hg0 hC0 hnew hTab hin
 go_enter Tryz.func18, Tryz.ntmps18
 go_wp2_with (go_at_call 37; refine (TP _).mono ?_; rintro e w' ⟨rfl, rfl⟩)
 refine TR.out.mono ?_
 rintro e w1 ⟨rfl, hs1, hg1⟩
 rw [hw] at hs1 ⊢
 have hgw1 := grown_trans HG0.out hg1
 have hh1 := HNEW.out w1 hg1
 have HS1 := Lib.hid hs1
 have TW := isWord_any W w1 (HTAB.out w1 hgw1)
 rw [HIN.out] at TW
 have TW := Lib.hid TW
 have HG1 := Lib.hid hgw1
 have HH1 := Lib.hid hh1
 clear hs1 hg1 hgw1 hh1 TP c0 c1 f0 hw TR HNEW HG0
 go_wp2_with fail
 refine TW.out.mono ?_
 rintro e w2 ⟨rfl, hb2⟩
 have hs2 := Lib.hid (HS1.out.keep (hb2.block cb HS1.out.lt))
 have hg2 := Lib.hid (grown_below HG1.out hb2)
 have hh2 : w2.heap[w.heap.size]? = some (.cells #[.int .u8 0, .string ⟨#[]⟩, .int .i64 0] 65 (0, 0)) := (hb2.block _ (Array.getElem?_eq_some_iff.1 HH1.out).1).trans HH1.out
 have cc := fun i => cell_of_row w2 w.heap.size i _ _ (0, 0) hh2
 have z0 := cc 0; have z1 := cc 1; have z2 := cc 2
 simp at z0 z1 z2
 have f2 : ∀ i, w2.frozen? ⟨w.heap.size, i, none⟩ = false := fun i => by simp [World.frozen?, hh2]
 clear cc hh2 hb2
 go_wp2
 exact bodyPost_ret (v := .tuple #[tokV ⟨3, W, k⟩, .bool true]) (by simp [results, Tryz.results18, go_sem, z0, z1, z2, f2]) rfl (NextRes.of hlt hs2.out hg2.out _ _ _)
set_option maxHeartbeats 4000000 in
set_option maxRecDepth 100000 in
theorem next_name (cb : Nat) (s W : List UInt8) (k : Nat) (w : World) (hC : ScAt w cb s k) (hl : s.length ≤ 1000000) (hk : k < s.length) (hTab : TabOk w) (hcb : 0 < cb)
 (hp : Hg.isPart s[k] = true) (hw : (s.drop k).takeWhile Hg.isPart = W) (hin : Hg.inL Hg.words W = false) (hn : Hg.r8name W = true) :
 Calls Tryz.prog 18 #[.pointer (some ⟨cb, 0, none⟩)] w (NextRes w cb s ⟨1, W, k⟩ (k + W.length)) := by
 obtain ⟨c0, c1, f0⟩ := hC.read
 have hlt := hC.lt
 have TP := part_any s[k]
 rw [hp] at TP
 have hg0 : w.grownBy (w.alloc (.cells #[.int .u8 0, .string ⟨#[]⟩, .int .i64 0] 65)) (some cb) := World.grownBy_alloc w _ _
 have hC0 : ScAt (w.alloc (.cells #[.int .u8 0, .string ⟨#[]⟩, .int .i64 0] 65)) cb s k := hC.keep ((World.grownBy_alloc w _ none).block cb hlt (by simp))
 have TR := Lib.hid (run_part cb s k _ hC0 (Nat.le_of_lt hk) hl)
 have hnew : ∀ w1, (w.alloc (.cells #[.int .u8 0, .string ⟨#[]⟩, .int .i64 0] 65)).grownBy w1 (some cb) → w1.heap[w.heap.size]? = some (.cells #[.int .u8 0, .string ⟨#[]⟩, .int .i64 0] 65 (0, 0)) :=
  fun w1 h => (h.block w.heap.size (by simp) (fun e => by injection e; omega)).trans (heap_alloc_new w _)
 have HNEW := Lib.hid hnew
 have HG0 := Lib.hid hg0
 have HTAB := Lib.hid (show ∀ w1, w.grownBy w1 (some cb) → TabOk w1 from fun w1 h => hTab.block (h.block _ hTab.lt (fun e => by injection e with e; omega)))
 have HIN := Lib.hid hin
 have HNM := Lib.hid hn
 have hWL := Lib.hid (show W.length ≤ 1000000 from by rw [← hw]; have := (List.takeWhile_sublist (l := s.drop k) Hg.isPart).length_le; simp at this; omega)
 clear hn hC hp hg0 hC0 hnew hTab hin
 go_enter Tryz.func18, Tryz.ntmps18
 go_wp2_with (go_at_call 37; refine (TP _).mono ?_; rintro e w' ⟨rfl, rfl⟩)
 refine TR.out.mono ?_
 rintro e w1 ⟨rfl, hs1, hg1⟩
 rw [hw] at hs1 ⊢
 have hgw1 := grown_trans HG0.out hg1
 have hh1 := HNEW.out w1 hg1
 have HS1 := Lib.hid hs1
 have TW := isWord_any W w1 (HTAB.out w1 hgw1)
 rw [HIN.out] at TW
 have TW := Lib.hid TW
 have HG1 := Lib.hid hgw1
 have HH1 := Lib.hid hh1
 clear hs1 hg1 hgw1 hh1 TP c0 c1 f0 hw TR HNEW HG0
 go_wp2_with fail
 refine TW.out.mono ?_
 rintro e w2 ⟨rfl, hb2⟩
 have hs2 := Lib.hid (HS1.out.keep (hb2.block cb HS1.out.lt))
 have hg2 := Lib.hid (grown_below HG1.out hb2)
 have hh2 : w2.heap[w.heap.size]? = some (.cells #[.int .u8 0, .string ⟨#[]⟩, .int .i64 0] 65 (0, 0)) := (hb2.block _ (Array.getElem?_eq_some_iff.1 HH1.out).1).trans HH1.out
 have hWl : W.length ≤ 1000000000 := by have := HS1.out; have := hWL.out; omega
 have TS := shaped_any W w2 hWl
 rw [HNM.out] at TS
 have TS := Lib.hid TS
 clear hb2
 go_wp2_with fail
 refine TS.out.mono ?_
 rintro e w3 ⟨rfl, rfl⟩
 have cc := fun i => cell_of_row w2 w.heap.size i _ _ (0, 0) hh2
 have z0 := cc 0; have z1 := cc 1; have z2 := cc 2
 simp at z0 z1 z2
 have f2 : ∀ i, w2.frozen? ⟨w.heap.size, i, none⟩ = false := fun i => by simp [World.frozen?, hh2]
 clear cc hh2
 go_wp2
 exact bodyPost_ret (v := .tuple #[tokV ⟨1, W, k⟩, .bool true]) (by simp [results, Tryz.results18, go_sem, z0, z1, z2, f2]) rfl (NextRes.of hlt hs2.out hg2.out _ _ _)
theorem small_parse : ∀ n, n < 256 → Go.Lib.parseIntB 64 (Hg.numT n) = .ok (n : Int) := by decide +kernel
theorem small_digits (n : Nat) (h : n < 256) : Go.Lib.decDigits n = Hg.numT n := by
 unfold Hg.numT
 by_cases h1 : n < 10
 ·
  rw [if_pos h1, Go.Lib.decDigits_one h1]
 rw [if_neg h1]
 by_cases h2 : n < 100
 ·
  rw [if_pos h2, Go.Lib.decDigits_two h1 h2]
 rw [if_neg h2, Go.Lib.decDigits, dif_neg h1, Go.Lib.decDigits_two (by omega) (by omega), show n / 10 / 10 = n / 100 by omega]
 rfl
def TabP (w : World) : Prop := Go.Lib.TabIs Tryz.prog w "internal/strconv.uint64pow10" .u64 Go.Lib.pow10Tab
theorem gPow : Tryz.prog.globalNamed "internal/strconv.uint64pow10" = some 3 := by kernel_rfl
theorem TabP.lt {w : World} (h : TabP w) : 3 < w.heap.size := by
 unfold TabP Go.Lib.TabIs at h
 cases hx : w.heap[3]? with
 | some o => exact (Array.getElem?_eq_some_iff.1 hx).1
 | none =>
   exfalso
   simp only [World.var?, gPow, Option.bind_eq_bind, Option.bind_some] at h
   rw [hx] at h
   simp at h
theorem TabP.block {w w' : World} (h : TabP w) (hb : w'.heap[3]? = w.heap[3]?) : TabP w' := by
 unfold TabP Go.Lib.TabIs at h ⊢
 rw [← h]
 simp only [World.var?, gPow, Option.bind_eq_bind, Option.bind_some]
 rw [hb]
theorem TabP.below {w w' : World} (h : TabP w) (hb : Below w.heap.size w w') : TabP w' := h.block (hb.block _ h.lt)
theorem parse_small (n : Nat) (h : n < 256) (W : List UInt8) (hW : W = Hg.numT n) (w : World) :
 Calls Tryz.prog 40 #[.string ⟨W.toArray⟩, .int .i64 10, .int .i64 64] w fun e w' => e = .returned (.tuple #[.int .i64 (n : Int), .nilIface]) ∧ Below w.heap.size w w' := by
 have h1 := Tryz.strconv_ParseInt_10_at64_ok ⟨W.toArray⟩ (by rw [hW]; unfold Hg.numT; (repeat' split) <;> simp [ByteArray.size]) (n : Int) (by rw [hW]; simpa using small_parse n h) w
 refine h1.mono ?_
 rintro e w' ⟨rfl, hw⟩
 refine ⟨rfl, ?_⟩
 rcases hw with rfl | ⟨t, rfl⟩
 ·
  exact Below.refl _ _
 ·
  exact Go.Lib.bytesWorld_below _ _ _
theorem format_small (n : Nat) (h : n < 256) (W : List UInt8) (hW : W = Hg.numT n) (w : World) (hP : TabP w) :
 Calls Tryz.prog 41 #[.int .i64 (n : Int), .int .i64 10] w fun e w' => e = .returned (strV W) ∧ Below w.heap.size w w' := by
 by_cases h1 : n < 100
 ·
  refine (Tryz.strconv_FormatInt_10_small n h1 w).mono ?_
  rintro e w' ⟨rfl, rfl⟩
  exact ⟨by rw [small_digits n h, hW], Below.refl _ _⟩
 ·
  refine (Tryz.strconv_FormatInt_10 (n : Int) (by omega) (by omega) w hP).mono ?_
  rintro e w' ⟨rfl, k, os, rfl⟩
  refine ⟨by rw [Go.Lib.itoa_nonneg, small_digits n h, hW], ?_⟩
  exact Go.Lib.below_grow _ _ (Nat.le_refl _) _ _
set_option maxHeartbeats 4000000 in
set_option maxRecDepth 100000 in
theorem next_num (cb : Nat) (s W : List UInt8) (k : Nat) (w : World) (hC : ScAt w cb s k) (hl : s.length ≤ 1000000) (hk : k < s.length) (hTab : TabOk w) (hcb : 0 < cb)
 (hp : Hg.isPart s[k] = true) (hw : (s.drop k).takeWhile Hg.isPart = W) (hin : Hg.inL Hg.words W = false) (hn : Hg.r8name W = false) (n : Nat) (hn10 : n < 256) (hnW : W = Hg.numT n) (hTP : TabP w) (hcp : 3 < cb) :
 Calls Tryz.prog 18 #[.pointer (some ⟨cb, 0, none⟩)] w (NextRes w cb s ⟨2, W, k⟩ (k + W.length)) := by
 obtain ⟨c0, c1, f0⟩ := hC.read
 have hlt := hC.lt
 have TP := part_any s[k]
 rw [hp] at TP
 have hg0 : w.grownBy (w.alloc (.cells #[.int .u8 0, .string ⟨#[]⟩, .int .i64 0] 65)) (some cb) := World.grownBy_alloc w _ _
 have hC0 : ScAt (w.alloc (.cells #[.int .u8 0, .string ⟨#[]⟩, .int .i64 0] 65)) cb s k := hC.keep ((World.grownBy_alloc w _ none).block cb hlt (by simp))
 have TR := Lib.hid (run_part cb s k _ hC0 (Nat.le_of_lt hk) hl)
 have hnew : ∀ w1, (w.alloc (.cells #[.int .u8 0, .string ⟨#[]⟩, .int .i64 0] 65)).grownBy w1 (some cb) → w1.heap[w.heap.size]? = some (.cells #[.int .u8 0, .string ⟨#[]⟩, .int .i64 0] 65 (0, 0)) :=
  fun w1 h => (h.block w.heap.size (by simp) (fun e => by injection e; omega)).trans (heap_alloc_new w _)
 have HNEW := Lib.hid hnew
 have HG0 := Lib.hid hg0
 have HTAB := Lib.hid (show ∀ w1, w.grownBy w1 (some cb) → TabOk w1 from fun w1 h => hTab.block (h.block _ hTab.lt (fun e => by injection e with e; omega)))
 have HTP := Lib.hid (show ∀ w1, w.grownBy w1 (some cb) → TabP w1 from fun w1 h => hTP.block (h.block _ hTP.lt (fun e => by injection e with e; omega)))
 have HIN := Lib.hid hin
 have HNM := Lib.hid hn
 have hWL := Lib.hid (show W.length ≤ 1000000 from by rw [← hw]; have := (List.takeWhile_sublist (l := s.drop k) Hg.isPart).length_le; simp at this; omega)
 have HNW := Lib.hid hnW
 clear hTP hn hnW hC hp hg0 hC0 hnew hTab hin
 go_enter Tryz.func18, Tryz.ntmps18
 go_wp2_with (go_at_call 37; refine (TP _).mono ?_; rintro e w' ⟨rfl, rfl⟩)
 refine TR.out.mono ?_
 rintro e w1 ⟨rfl, hs1, hg1⟩
 rw [hw] at hs1 ⊢
 have hgw1 := grown_trans HG0.out hg1
 have hh1 := HNEW.out w1 hg1
 have HS1 := Lib.hid hs1
 have TW := isWord_any W w1 (HTAB.out w1 hgw1)
 rw [HIN.out] at TW
 have TW := Lib.hid TW
 have HG1 := Lib.hid hgw1
 have HH1 := Lib.hid hh1
 clear hs1 hg1 hgw1 hh1 TP c0 c1 f0 hw TR HNEW HG0
 go_wp2_with fail
 refine TW.out.mono ?_
 rintro e w2 ⟨rfl, hb2⟩
 have hs2 := Lib.hid (HS1.out.keep (hb2.block cb HS1.out.lt))
 have hg2 := Lib.hid (grown_below HG1.out hb2)
 have hh2 : w2.heap[w.heap.size]? = some (.cells #[.int .u8 0, .string ⟨#[]⟩, .int .i64 0] 65 (0, 0)) := (hb2.block _ (Array.getElem?_eq_some_iff.1 HH1.out).1).trans HH1.out
 have hWl : W.length ≤ 1000000000 := by have := HS1.out; have := hWL.out; omega
 have TS := shaped_any W w2 hWl
 rw [HNM.out] at TS
 have TS := Lib.hid TS
 clear hb2
 go_wp2_with fail
 refine TS.out.mono ?_
 rintro e w3 ⟨rfl, rfl⟩
 have TPI := Lib.hid (parse_small n hn10 W HNW.out w2)
 have TFI := fun W0 (h : TabP W0) => Lib.hid (format_small n hn10 W HNW.out W0 h)
 go_wp2_with fail
 refine TPI.out.mono ?_
 rintro e w3 ⟨rfl, hb3⟩
 have hs2 := Lib.hid (hs2.out.keep (hb3.block cb hs2.out.lt))
 have hg2 := Lib.hid (grown_below hg2.out hb3)
 have hh2 : w3.heap[w.heap.size]? = some (.cells #[.int .u8 0, .string ⟨#[]⟩, .int .i64 0] 65 (0, 0)) := (hb3.block _ (Array.getElem?_eq_some_iff.1 hh2).1).trans hh2
 have hqe : (W == W) = true := by simp
 have HH3 := Lib.hid hh2
 clear hh2 hb3 TPI
 go_wp2_with fail
 refine (TFI _ (HTP.out _ hg2.out)).out.mono ?_
 rintro e w4 ⟨rfl, hb4⟩
 have hs2 := Lib.hid (hs2.out.keep (hb4.block cb hs2.out.lt))
 have hg2 := Lib.hid (grown_below hg2.out hb4)
 have hh2 : w4.heap[w.heap.size]? = some (.cells #[.int .u8 0, .string ⟨#[]⟩, .int .i64 0] 65 (0, 0)) := (hb4.block _ (Array.getElem?_eq_some_iff.1 HH3.out).1).trans HH3.out
 have cc := fun i => cell_of_row w4 w.heap.size i _ _ (0, 0) hh2
 have z0 := cc 0; have z1 := cc 1; have z2 := cc 2
 simp at z0 z1 z2
 have f2 : ∀ i, w4.frozen? ⟨w.heap.size, i, none⟩ = false := fun i => by simp [World.frozen?, hh2]
 clear cc hh2 hb4 TFI
 go_wp2
 exact bodyPost_ret (v := .tuple #[tokV ⟨2, W, k⟩, .bool true]) (by simp [results, Tryz.results18, go_sem, z0, z1, z2, f2]) rfl (NextRes.of hlt hs2.out hg2.out _ _ _)
end Go.Proofs.YtoelmnamlnbdhaaGreatDoor
namespace Go.Proofs.YtoelmnamlnbdhaaGreatDoor
open Go.RowKit
def sgT (s : List UInt8) (k m : Nat) : List UInt8 := (s.drop k).take m
set_option maxHeartbeats 4000000 in
set_option maxRecDepth 100000 in
theorem next_sign (cb : Nat) (s T : List UInt8) (k mt : Nat) (w : World) (hC : ScAt w cb s k) (hl : s.length ≤ 1000000) (hk : k < s.length) (hTab : TabOk w) (hcb : 0 < cb)
 (hp : Hg.isPart s[k] = false) (hmt : (mt = 2 ∧ Hg.inL Hg.signs (sgT s k 2) = true) ∨ (mt = 1 ∧ Hg.inL Hg.signs (sgT s k 2) = false ∧ Hg.inL Hg.signs (sgT s k 1) = true)) (hT : T = sgT s k mt) :
 Calls Tryz.prog 18 #[.pointer (some ⟨cb, 0, none⟩)] w (NextRes w cb s ⟨4, T, k⟩ (k + T.length)) := by
 obtain ⟨c0, c1, f0⟩ := hC.read
 have hlt := hC.lt
 have TP := part_any s[k]
 rw [hp] at TP
 have hg0 : w.grownBy (w.alloc (.cells #[.int .u8 0, .string ⟨#[]⟩, .int .i64 0] 65)) (some cb) := World.grownBy_alloc w _ _
 have hC0 : ScAt (w.alloc (.cells #[.int .u8 0, .string ⟨#[]⟩, .int .i64 0] 65)) cb s k := hC.keep ((World.grownBy_alloc w _ none).block cb hlt (by simp))
 have hh0 : (w.alloc (.cells #[.int .u8 0, .string ⟨#[]⟩, .int .i64 0] 65)).heap[w.heap.size]? = some (.cells #[.int .u8 0, .string ⟨#[]⟩, .int .i64 0] 65 (0, 0)) := heap_alloc_new w _
 have HTAB := Lib.hid (show ∀ w1, w.grownBy w1 (some cb) → TabOk w1 from fun w1 h => hTab.block (h.block _ hTab.lt (fun e => by injection e with e; omega)))
 have HMT := Lib.hid hmt
 have HT := Lib.hid hT
 clear hC hp hTab hmt hT
 go_enter Tryz.func18, Tryz.ntmps18
 go_wp2_with (go_at_call 37; refine (TP _).mono ?_; rintro e w' ⟨rfl, rfl⟩)
 generalize World.alloc w _ = w0 at hg0 hC0 hh0 ⊢
 go_loopw [8] (fun p wr => ∃ m : Nat, p = .int .i64 (m : Int) ∧ (m = 2 ∨ (m = 1 ∧ mt = 1)) ∧ ScAt wr cb s k ∧ w.grownBy wr (some cb) ∧ wr.heap[w.heap.size]? = some (.cells #[.int .u8 0, .string ⟨#[]⟩, .int .i64 0] 65 (0, 0))) (fun p wr => (intOf p).toNat)
 case atStart => exact ⟨2, rfl, .inl rfl, hC0, hg0, hh0⟩
 case round =>
  obtain ⟨m, rfl, hm, hs1, hg1, hh1⟩ := hrel
  clear c0 c1 f0 hg0 hC0 hh0 TP
  obtain ⟨c0, c1, f0⟩ := hs1.read
  have HS := Lib.hid hs1
  have HG := Lib.hid hg1
  have HH := Lib.hid hh1
  have hm1 : 1 ≤ m ∧ m ≤ 2 := by omega
  have HM := Lib.hid hm
  clear hs1 hg1 hh1 hm
  obtain ⟨hm1, hm2⟩ := hm1
  have hq : decide (0 < (m : Int)) = true := by simp; omega
  have hq' : decide (0 < m) = true := by simp; omega
  have hw1 : IntKind.i64.wrap ((k : Int) + (m : Int)) = (k : Int) + (m : Int) := IntWalk.i64_in _ (by omega)
  have HTAB2 := Lib.hid (fun n => HTAB.out (wr.drewN n) (grown_drewN HG.out n))
  go_wp2
  go_quiet (fail)
  have hT1 : (List.take ((min ((k : Int) + (m : Int)) (s.length : Int)).toNat - k) (List.drop k s)) = sgT s k m := by
   unfold sgT
   rcases Nat.le_total (k + m) s.length with h | h
   ·
    rw [show (min ((k : Int) + (m : Int)) (s.length : Int)).toNat - k = m by omega]
   ·
    rw [show (min ((k : Int) + (m : Int)) (s.length : Int)).toNat - k = s.length - k by omega, List.take_of_length_le (by simp), List.take_of_length_le (by simp; omega)]
  rw [hT1]
  have hTl : (sgT s k m).length ≤ 2 := by unfold sgT; rw [List.length_take]; omega
  clear hT1
  have TS := Lib.hid (fun n => signsT_any (wr.drewN n) (HTAB2.out n))
  cases hin : Hg.inL Hg.signs (sgT s k m) with
  | true =>
    have hmm : T = sgT s k m := by
     rcases HMT.out with ⟨h1, h2⟩ | ⟨h1, h2, h3⟩
     ·
      rcases HM.out with h | ⟨_, h⟩
      ·
       rw [HT.out, h, h1]
      ·
       omega
     ·
      rcases HM.out with h | ⟨h, _⟩
      ·
       rw [h, h2] at hin; cases hin
      ·
       rw [HT.out, h, h1]
    rw [← hmm] at hin hTl ⊢
    have HIN := Lib.hid hin
    clear hin hmm
    have hw2 : IntKind.i64.wrap ((k : Int) + (T.length : Int)) = (k : Int) + (T.length : Int) := IntWalk.i64_in _ (by omega)
    go_wp2_with fail
    refine (TS.out _).mono ?_
    rintro e w1 ⟨a1, rfl, hx1, hb1⟩
    have TC := containsS_any _ _ Hg.signs T w1 hx1 (by decide)
    rw [HIN.out] at TC
    have TC := Lib.hid TC
    have hg1 := grown_below (grown_drewN HG.out _) hb1
    have hs1 : ScAt w1 cb s k := HS.out.keep (hb1.block cb HS.out.lt)
    have hh1 : w1.heap[w.heap.size]? = some (.cells #[.int .u8 0, .string ⟨#[]⟩, .int .i64 0] 65 (0, 0)) := (hb1.block _ (Array.getElem?_eq_some_iff.1 HH.out).1).trans HH.out
    clear c0 c1 f0 hx1 hb1
    obtain ⟨c0, c1, f0⟩ := hs1.read
    have cc := fun i => cell_of_row w1 w.heap.size i _ _ (0, 0) hh1
    have z0 := cc 0; have z1 := cc 1; have z2 := cc 2
    simp at z0 z1 z2
    have f2 : ∀ i, w1.frozen? ⟨w.heap.size, i, none⟩ = false := fun i => by simp [World.frozen?, hh1]
    have hs2 := Lib.hid (hs1.set (j := k + T.length))
    have hg2 := Lib.hid (grown_set hg1 1 (.int .i64 ((k + T.length : Nat) : Int)))
    have hne : ¬ cb = w.heap.size := by omega
    have hne2 : ¬ w.heap.size = cb := by omega
    clear cc hh1 hg1 hs1
    go_wp2_with (go_at_call 42; refine TC.out.mono ?_; rintro e w' ⟨rfl, rfl⟩)
    exact bodyPost_ret (v := .tuple #[tokV ⟨4, T, k⟩, .bool true]) (by simp [results, Tryz.results18, go_sem, z0, z1, z2, f2, hne, hne2]) rfl (NextRes.of hlt hs2.out hg2.out _ _ _)
  | false =>
    have hm12 : m = 2 ∧ mt = 1 := by
     rcases HM.out with h | ⟨h, h'⟩
     ·
      rcases HMT.out with ⟨h1, h2⟩ | ⟨h1, _⟩
      ·
       rw [h, h2] at hin; cases hin
      ·
       exact ⟨h, h1⟩
     ·
      rcases HMT.out with ⟨h1, h2⟩ | ⟨h1, h2, h3⟩
      ·
       omega
      ·
       rw [h, h3] at hin; cases hin
    have HIN := Lib.hid hin
    have HM12 := Lib.hid hm12
    clear hin hm12
    go_wp2_with fail
    refine (TS.out _).mono ?_
    rintro e w1 ⟨a1, rfl, hx1, hb1⟩
    have TC := containsS_any _ _ Hg.signs (sgT s k m) w1 hx1 (by decide)
    rw [HIN.out] at TC
    have TC := Lib.hid TC
    have hg1 := Lib.hid (grown_below (grown_drewN HG.out _) hb1)
    have hs1 : ScAt w1 cb s k := HS.out.keep (hb1.block cb HS.out.lt)
    have hs1 := Lib.hid hs1
    have hh1 : w1.heap[w.heap.size]? = some (.cells #[.int .u8 0, .string ⟨#[]⟩, .int .i64 0] 65 (0, 0)) := (hb1.block _ (Array.getElem?_eq_some_iff.1 HH.out).1).trans HH.out
    have hh1 := Lib.hid hh1
    clear c0 c1 f0 hx1 hb1
    go_wp2_with (go_at_call 42; refine TC.out.mono ?_; rintro e w' ⟨rfl, rfl⟩)
    go_roundw
    case rel => exact ⟨1, by have := HM12.out.1; subst this; rfl, .inr ⟨rfl, HM12.out.2⟩, hs1.out, hg1.out, hh1.out⟩
    case measure => simp [intOf]; omega
end Go.Proofs.YtoelmnamlnbdhaaGreatDoor
