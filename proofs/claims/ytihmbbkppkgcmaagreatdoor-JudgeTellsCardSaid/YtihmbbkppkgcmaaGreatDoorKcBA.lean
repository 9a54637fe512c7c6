/-
  Part of a proof: contracts of functions that the claim reaches, and plain lemmas.
-/
import Derived.Test.YtihmbbkppkgcmaaGreatDoorKcAZ
set_option linter.all false
namespace Go.Proofs.YtihmbbkppkgcmaaGreatDoor
open Go.RowKit
theorem typed9_ok {rb : Nat} {s : Hg.Rd} {w : World} (hR : RdAt w rb s) (hl : Okk s) :
 Calls Tryz.prog 108 #[.pointer (some ⟨rb, 0, none⟩)] w fun e w' => e = .returned (.int .u8 (s.typed.1 : Int)) ∧ RdAt w' rb s.typed.2 ∧ Lite rb w w' := typed9_any rb s w hR hl.lim
theorem declare9_ok {rb : Nat} {s : Hg.Rd} {t : List UInt8} {k : Nat} {w : World} (hR : RdAt w rb s) (hl : Okk s) (hk : k < s.rows.length) :
 Calls Tryz.prog 109 #[.pointer (some ⟨rb, 0, none⟩), strV t, .int .i64 (k : Int)] w fun e w' => e = .returned (.tuple #[]) ∧ RdAt w' rb (s.declare t k) ∧ Below rb w w' :=
 declare9_any rb s t k w hR (by have := hl.inv.used; have := hl.fin.rows; omega) (by have := hl.inv.used; have := hl.inv.seen; have := hl.fin.rows; omega) (by have := hl.fin.rows; omega) hk
theorem name_len (s : Hg.Rd) : s.name.rows.length = s.rows.length := by rw [(Hg.Rd.calls_name s).2.2]
set_option maxHeartbeats 2000000 in
set_option maxRecDepth 100000 in
theorem stmt9_if (f : Nat) (ihB : BlockC f) (rb : Nat) (s : Hg.Rd) (u : Nat) (w : World) (hR : RdAt w rb s) (ho : Okk s) (hdp : s.deep ≤ 90) (hlv : s.level ≤ s.deep) (hu : u < s.rows.length)
 (hn0 : s.next [108, 101, 116] = false) (hy : s.next [105, 102] = true)
 (a1 a2 a3 a4 a5 a6 : Hg.Rd) (e1 : s.step = a1) (e2 : a1.node u (Hg.Rd.nd 8) = a2) (e3 : Hg.Rd.expr f a2 s.rows.length = some a3) (e4 : Hg.Rd.block f a3 s.rows.length = some a4) (e5 : a4.need [101, 108, 115, 101] = a5) (e6 : Hg.Rd.block f a5 s.rows.length = some a6) (hf : Fin_ a6) :
 Calls Tryz.prog 110 #[.pointer (some ⟨rb, 0, none⟩), .int .i64 (u : Int)] w fun e w' => e = .returned (.tuple #[]) ∧ RdAt w' rb a6 ∧ Below rb w w' := by
 have E1 : Hg.Rd.SStep s a1 := by rw [← e1]; exact (Hg.Rd.es_step s).s
 have E2 : Hg.Rd.SStep a1 a2 := by rw [← e2]; exact (Hg.Rd.es_node a1 u _ rfl).s
 have E3 : Hg.Rd.SStep a2 a3 := ((Hg.Rd.expr_es f).1 _ _ _ e3).s
 have E4 : Hg.Rd.SStep a3 a4 := ((Hg.Rd.stmt_ss f).2.1 _ _ _ e4)
 have E5 : Hg.Rd.SStep a4 a5 := by rw [← e5]; exact (Hg.Rd.es_need a4 _).s
 have E6 : Hg.Rd.SStep a5 a6 := ((Hg.Rd.stmt_ss f).2.1 _ _ _ e6)
 have G5 : Hg.Rd.Grow a5 a6 := E6.grow
 have G4 : Hg.Rd.Grow a4 a6 := E5.grow.trans G5
 have G3 : Hg.Rd.Grow a3 a6 := E4.grow.trans G4
 have G2 : Hg.Rd.Grow a2 a6 := E3.grow.trans G3
 have G1 : Hg.Rd.Grow a1 a6 := E2.grow.trans G2
 have G0 : Hg.Rd.Grow s a6 := E1.grow.trans G1
 have ok_s : Okk s := ho
 have ok_a1 : Okk a1 := ok_s.ss E1 G1 hf
 have ok_a2 : Okk a2 := ok_a1.ss E2 G2 hf
 have ok_a3 : Okk a3 := ok_a2.ss E3 G3 hf
 have ok_a4 : Okk a4 := ok_a3.ss E4 G4 hf
 have ok_a5 : Okk a5 := ok_a4.ss E5 G5 hf
 have hnl : s.rows.length < a2.rows.length := by rw [← e2, Hg.Rd.len_node]; rw [← e1]; exact Nat.lt_succ_self _
 have len_a3 : s.rows.length < a3.rows.length := Nat.lt_of_lt_of_le hnl E3.grow.len
 have len_a4 : s.rows.length < a4.rows.length := Nat.lt_of_lt_of_le len_a3 E4.grow.len
 have len_a5 : s.rows.length < a5.rows.length := Nat.lt_of_lt_of_le len_a4 E5.grow.len
 have len_a6 : s.rows.length < a6.rows.length := Nat.lt_of_lt_of_le len_a5 E6.grow.len
 have T1 := fun W h => Lib.hid (eat9_no (rb := rb) (s := s) (t := [108, 101, 116]) (w := W) h ok_s hn0)
 have T2 := fun W h => Lib.hid (eat9_yes (rb := rb) (s := s) (t := [105, 102]) (w := W) h ok_s hy)
 rw [e1] at T2
 have T3 := fun W h => Lib.hid (node9_n (rb := rb) (s := a1) (under := u) s.rows.length (Hg.Rd.nd 8) (w := W) h ok_a1 rfl (by first | exact hu | rfl | (rw [← e1]; exact hu) | (rw [← e1]; rfl)) (by first | exact hu | rfl | (rw [← e1]; exact hu) | (rw [← e1]; rfl)))
 rw [e2] at T3
 have T4 := fun W h => Lib.hid (expr9_any f rb a2 s.rows.length a3 W e3 h ok_a2 (by rw [E2.deep, E1.deep]; exact hdp) (hf.of G3) (hnl))
 have T5 := fun W h => Lib.hid (ihB rb a3 s.rows.length a4 W e4 h ok_a3 (by rw [E3.deep, E2.deep, E1.deep]; exact hdp) (by rw [E3.deep, E2.deep, E1.deep, E3.level, E2.level, E1.level]; exact hlv) (hf.of G4) (len_a3))
 have T6 := fun W h => Lib.hid (need9_ok (rb := rb) (s := a4) (t := [101, 108, 115, 101]) (w := W) h ok_a4)
 rw [e5] at T6
 have T7 := fun W h => Lib.hid (ihB rb a5 s.rows.length a6 W e6 h ok_a5 (by rw [E5.deep, E4.deep, E3.deep, E2.deep, E1.deep]; exact hdp) (by rw [E5.deep, E4.deep, E3.deep, E2.deep, E1.deep, E5.level, E4.level, E3.level, E2.level, E1.level]; exact hlv) hf (len_a5))
 go_enter Tryz.func110, Tryz.ntmps110
 go_wp2_with (first
  | (go_at_call 72; ((with_reducible refine ((T1 _ hR).out).mono ?_); rintro e w1 ⟨rfl, hR1, hb1⟩))
  | (go_at_call 72; ((with_reducible refine ((T2 _ hR1).out).mono ?_); rintro e w2 ⟨rfl, hR2, hb2⟩))
  | (go_at_call 67; ((refine ((T3 _ hR2).out).mono ?_); rintro e w3 ⟨rfl, hR3, hb3⟩))
  | (go_at_call 111; ((with_reducible refine ((T4 _ hR3).out).mono ?_); rintro e w4 ⟨rfl, hR4, hb4⟩))
  | (go_at_call 136; ((with_reducible refine ((T5 _ hR4).out).mono ?_); rintro e w5 ⟨rfl, hR5, hb5⟩))
  | (go_at_call 68; ((with_reducible refine ((T6 _ hR5).out).mono ?_); rintro e w6 ⟨rfl, hR6, hb6⟩))
  | (go_at_call 136; ((with_reducible refine ((T7 _ hR6).out).mono ?_); rintro e w7 ⟨rfl, hR7, hb7⟩)))
 go_end0
 exact ⟨rfl, hR7, hb1.below.trans (hb2.below.trans (hb3.trans (hb4.trans (hb5.trans (hb6.below.trans (hb7))))))⟩
set_option maxHeartbeats 2000000 in
set_option maxRecDepth 100000 in
theorem stmt9_while (f : Nat) (ihB : BlockC f) (rb : Nat) (s : Hg.Rd) (u : Nat) (w : World) (hR : RdAt w rb s) (ho : Okk s) (hdp : s.deep ≤ 90) (hlv : s.level ≤ s.deep) (hu : u < s.rows.length)
 (hn0 : s.next [108, 101, 116] = false) (hn1 : s.next [105, 102] = false) (hy : s.next [119, 104, 105, 108, 101] = true)
 (a1 a2 a3 a4 : Hg.Rd) (e1 : s.step = a1) (e2 : a1.node u (Hg.Rd.nd 9) = a2) (e3 : Hg.Rd.expr f a2 s.rows.length = some a3) (e4 : Hg.Rd.block f a3 s.rows.length = some a4) (hf : Fin_ a4) :
 Calls Tryz.prog 110 #[.pointer (some ⟨rb, 0, none⟩), .int .i64 (u : Int)] w fun e w' => e = .returned (.tuple #[]) ∧ RdAt w' rb a4 ∧ Below rb w w' := by
 have E1 : Hg.Rd.SStep s a1 := by rw [← e1]; exact (Hg.Rd.es_step s).s
 have E2 : Hg.Rd.SStep a1 a2 := by rw [← e2]; exact (Hg.Rd.es_node a1 u _ rfl).s
 have E3 : Hg.Rd.SStep a2 a3 := ((Hg.Rd.expr_es f).1 _ _ _ e3).s
 have E4 : Hg.Rd.SStep a3 a4 := ((Hg.Rd.stmt_ss f).2.1 _ _ _ e4)
 have G3 : Hg.Rd.Grow a3 a4 := E4.grow
 have G2 : Hg.Rd.Grow a2 a4 := E3.grow.trans G3
 have G1 : Hg.Rd.Grow a1 a4 := E2.grow.trans G2
 have G0 : Hg.Rd.Grow s a4 := E1.grow.trans G1
 have ok_s : Okk s := ho
 have ok_a1 : Okk a1 := ok_s.ss E1 G1 hf
 have ok_a2 : Okk a2 := ok_a1.ss E2 G2 hf
 have ok_a3 : Okk a3 := ok_a2.ss E3 G3 hf
 have hnl : s.rows.length < a2.rows.length := by rw [← e2, Hg.Rd.len_node]; rw [← e1]; exact Nat.lt_succ_self _
 have len_a3 : s.rows.length < a3.rows.length := Nat.lt_of_lt_of_le hnl E3.grow.len
 have len_a4 : s.rows.length < a4.rows.length := Nat.lt_of_lt_of_le len_a3 E4.grow.len
 have T1 := fun W h => Lib.hid (eat9_no (rb := rb) (s := s) (t := [108, 101, 116]) (w := W) h ok_s hn0)
 have T2 := fun W h => Lib.hid (eat9_no (rb := rb) (s := s) (t := [105, 102]) (w := W) h ok_s hn1)
 have T3 := fun W h => Lib.hid (eat9_yes (rb := rb) (s := s) (t := [119, 104, 105, 108, 101]) (w := W) h ok_s hy)
 rw [e1] at T3
 have T4 := fun W h => Lib.hid (node9_n (rb := rb) (s := a1) (under := u) s.rows.length (Hg.Rd.nd 9) (w := W) h ok_a1 rfl (by first | exact hu | rfl | (rw [← e1]; exact hu) | (rw [← e1]; rfl)) (by first | exact hu | rfl | (rw [← e1]; exact hu) | (rw [← e1]; rfl)))
 rw [e2] at T4
 have T5 := fun W h => Lib.hid (expr9_any f rb a2 s.rows.length a3 W e3 h ok_a2 (by rw [E2.deep, E1.deep]; exact hdp) (hf.of G3) (hnl))
 have T6 := fun W h => Lib.hid (ihB rb a3 s.rows.length a4 W e4 h ok_a3 (by rw [E3.deep, E2.deep, E1.deep]; exact hdp) (by rw [E3.deep, E2.deep, E1.deep, E3.level, E2.level, E1.level]; exact hlv) hf (len_a3))
 go_enter Tryz.func110, Tryz.ntmps110
 go_wp2_with (first
  | (go_at_call 72; ((with_reducible refine ((T1 _ hR).out).mono ?_); rintro e w1 ⟨rfl, hR1, hb1⟩))
  | (go_at_call 72; ((with_reducible refine ((T2 _ hR1).out).mono ?_); rintro e w2 ⟨rfl, hR2, hb2⟩))
  | (go_at_call 72; ((with_reducible refine ((T3 _ hR2).out).mono ?_); rintro e w3 ⟨rfl, hR3, hb3⟩))
  | (go_at_call 67; ((refine ((T4 _ hR3).out).mono ?_); rintro e w4 ⟨rfl, hR4, hb4⟩))
  | (go_at_call 111; ((with_reducible refine ((T5 _ hR4).out).mono ?_); rintro e w5 ⟨rfl, hR5, hb5⟩))
  | (go_at_call 136; ((with_reducible refine ((T6 _ hR5).out).mono ?_); rintro e w6 ⟨rfl, hR6, hb6⟩)))
 go_end0
 exact ⟨rfl, hR6, hb1.below.trans (hb2.below.trans (hb3.below.trans (hb4.trans (hb5.trans (hb6)))))⟩
set_option maxHeartbeats 2000000 in
set_option maxRecDepth 100000 in
theorem stmt9_print (f : Nat) (rb : Nat) (s : Hg.Rd) (u : Nat) (w : World) (hR : RdAt w rb s) (ho : Okk s) (hdp : s.deep ≤ 90) (hlv : s.level ≤ s.deep) (hu : u < s.rows.length)
 (hn0 : s.next [108, 101, 116] = false) (hn1 : s.next [105, 102] = false) (hn2 : s.next [119, 104, 105, 108, 101] = false) (hy : s.next [112, 114, 105, 110, 116] = true)
 (a1 a2 a3 a4 : Hg.Rd) (e1 : s.step = a1) (e2 : a1.node u (Hg.Rd.nd 11) = a2) (e3 : Hg.Rd.expr f a2 s.rows.length = some a3) (e4 : a3.need [59] = a4) (hf : Fin_ a4) :
 Calls Tryz.prog 110 #[.pointer (some ⟨rb, 0, none⟩), .int .i64 (u : Int)] w fun e w' => e = .returned (.tuple #[]) ∧ RdAt w' rb a4 ∧ Below rb w w' := by
 have E1 : Hg.Rd.SStep s a1 := by rw [← e1]; exact (Hg.Rd.es_step s).s
 have E2 : Hg.Rd.SStep a1 a2 := by rw [← e2]; exact (Hg.Rd.es_node a1 u _ rfl).s
 have E3 : Hg.Rd.SStep a2 a3 := ((Hg.Rd.expr_es f).1 _ _ _ e3).s
 have E4 : Hg.Rd.SStep a3 a4 := by rw [← e4]; exact (Hg.Rd.es_need a3 _).s
 have G3 : Hg.Rd.Grow a3 a4 := E4.grow
 have G2 : Hg.Rd.Grow a2 a4 := E3.grow.trans G3
 have G1 : Hg.Rd.Grow a1 a4 := E2.grow.trans G2
 have G0 : Hg.Rd.Grow s a4 := E1.grow.trans G1
 have ok_s : Okk s := ho
 have ok_a1 : Okk a1 := ok_s.ss E1 G1 hf
 have ok_a2 : Okk a2 := ok_a1.ss E2 G2 hf
 have ok_a3 : Okk a3 := ok_a2.ss E3 G3 hf
 have hnl : s.rows.length < a2.rows.length := by rw [← e2, Hg.Rd.len_node]; rw [← e1]; exact Nat.lt_succ_self _
 have len_a3 : s.rows.length < a3.rows.length := Nat.lt_of_lt_of_le hnl E3.grow.len
 have len_a4 : s.rows.length < a4.rows.length := Nat.lt_of_lt_of_le len_a3 E4.grow.len
 have T1 := fun W h => Lib.hid (eat9_no (rb := rb) (s := s) (t := [108, 101, 116]) (w := W) h ok_s hn0)
 have T2 := fun W h => Lib.hid (eat9_no (rb := rb) (s := s) (t := [105, 102]) (w := W) h ok_s hn1)
 have T3 := fun W h => Lib.hid (eat9_no (rb := rb) (s := s) (t := [119, 104, 105, 108, 101]) (w := W) h ok_s hn2)
 have T4 := fun W h => Lib.hid (eat9_yes (rb := rb) (s := s) (t := [112, 114, 105, 110, 116]) (w := W) h ok_s hy)
 rw [e1] at T4
 have T5 := fun W h => Lib.hid (node9_n (rb := rb) (s := a1) (under := u) s.rows.length (Hg.Rd.nd 11) (w := W) h ok_a1 rfl (by first | exact hu | rfl | (rw [← e1]; exact hu) | (rw [← e1]; rfl)) (by first | exact hu | rfl | (rw [← e1]; exact hu) | (rw [← e1]; rfl)))
 rw [e2] at T5
 have T6 := fun W h => Lib.hid (expr9_any f rb a2 s.rows.length a3 W e3 h ok_a2 (by rw [E2.deep, E1.deep]; exact hdp) (hf.of G3) (hnl))
 have T7 := fun W h => Lib.hid (need9_ok (rb := rb) (s := a3) (t := [59]) (w := W) h ok_a3)
 rw [e4] at T7
 go_enter Tryz.func110, Tryz.ntmps110
 go_wp2_with (first
  | (go_at_call 72; ((with_reducible refine ((T1 _ hR).out).mono ?_); rintro e w1 ⟨rfl, hR1, hb1⟩))
  | (go_at_call 72; ((with_reducible refine ((T2 _ hR1).out).mono ?_); rintro e w2 ⟨rfl, hR2, hb2⟩))
  | (go_at_call 72; ((with_reducible refine ((T3 _ hR2).out).mono ?_); rintro e w3 ⟨rfl, hR3, hb3⟩))
  | (go_at_call 72; ((with_reducible refine ((T4 _ hR3).out).mono ?_); rintro e w4 ⟨rfl, hR4, hb4⟩))
  | (go_at_call 67; ((refine ((T5 _ hR4).out).mono ?_); rintro e w5 ⟨rfl, hR5, hb5⟩))
  | (go_at_call 111; ((with_reducible refine ((T6 _ hR5).out).mono ?_); rintro e w6 ⟨rfl, hR6, hb6⟩))
  | (go_at_call 68; ((with_reducible refine ((T7 _ hR6).out).mono ?_); rintro e w7 ⟨rfl, hR7, hb7⟩)))
 go_end0
 exact ⟨rfl, hR7, hb1.below.trans (hb2.below.trans (hb3.below.trans (hb4.below.trans (hb5.trans (hb6.trans (hb7.below))))))⟩
set_option maxHeartbeats 2000000 in
set_option maxRecDepth 100000 in
theorem stmt9_do (f : Nat) (rb : Nat) (s : Hg.Rd) (u : Nat) (w : World) (hR : RdAt w rb s) (ho : Okk s) (hdp : s.deep ≤ 90) (hlv : s.level ≤ s.deep) (hu : u < s.rows.length)
 (hn0 : s.next [108, 101, 116] = false) (hn1 : s.next [105, 102] = false) (hn2 : s.next [119, 104, 105, 108, 101] = false) (hn3 : s.next [112, 114, 105, 110, 116] = false) (hy : s.next [100, 111] = true)
 (a1 a2 a3 a4 a5 : Hg.Rd) (x1 : List UInt8) (e1 : s.step = a1) (e2 : a1.node u (Hg.Rd.nd 12) = a2) (qx1 : a2.text 1 = x1) (e3 : a2.name = a3) (e4 : Hg.Rd.call f a3 s.rows.length x1 = some a4) (e5 : a4.need [59] = a5) (hf : Fin_ a5) :
 Calls Tryz.prog 110 #[.pointer (some ⟨rb, 0, none⟩), .int .i64 (u : Int)] w fun e w' => e = .returned (.tuple #[]) ∧ RdAt w' rb a5 ∧ Below rb w w' := by
 have E1 : Hg.Rd.SStep s a1 := by rw [← e1]; exact (Hg.Rd.es_step s).s
 have E2 : Hg.Rd.SStep a1 a2 := by rw [← e2]; exact (Hg.Rd.es_node a1 u _ rfl).s
 have E3 : Hg.Rd.SStep a2 a3 := by rw [← e3]; exact (Hg.Rd.es_name a2).s
 have E4 : Hg.Rd.SStep a3 a4 := ((Hg.Rd.expr_es f).2.1 _ _ _ _ e4).s
 have E5 : Hg.Rd.SStep a4 a5 := by rw [← e5]; exact (Hg.Rd.es_need a4 _).s
 have G4 : Hg.Rd.Grow a4 a5 := E5.grow
 have G3 : Hg.Rd.Grow a3 a5 := E4.grow.trans G4
 have G2 : Hg.Rd.Grow a2 a5 := E3.grow.trans G3
 have G1 : Hg.Rd.Grow a1 a5 := E2.grow.trans G2
 have G0 : Hg.Rd.Grow s a5 := E1.grow.trans G1
 have ok_s : Okk s := ho
 have ok_a1 : Okk a1 := ok_s.ss E1 G1 hf
 have ok_a2 : Okk a2 := ok_a1.ss E2 G2 hf
 have ok_a3 : Okk a3 := ok_a2.ss E3 G3 hf
 have ok_a4 : Okk a4 := ok_a3.ss E4 G4 hf
 have hnl : s.rows.length < a2.rows.length := by rw [← e2, Hg.Rd.len_node]; rw [← e1]; exact Nat.lt_succ_self _
 have len_a3 : s.rows.length < a3.rows.length := Nat.lt_of_lt_of_le hnl E3.grow.len
 have len_a4 : s.rows.length < a4.rows.length := Nat.lt_of_lt_of_le len_a3 E4.grow.len
 have len_a5 : s.rows.length < a5.rows.length := Nat.lt_of_lt_of_le len_a4 E5.grow.len
 have T1 := fun W h => Lib.hid (eat9_no (rb := rb) (s := s) (t := [108, 101, 116]) (w := W) h ok_s hn0)
 have T2 := fun W h => Lib.hid (eat9_no (rb := rb) (s := s) (t := [105, 102]) (w := W) h ok_s hn1)
 have T3 := fun W h => Lib.hid (eat9_no (rb := rb) (s := s) (t := [119, 104, 105, 108, 101]) (w := W) h ok_s hn2)
 have T4 := fun W h => Lib.hid (eat9_no (rb := rb) (s := s) (t := [112, 114, 105, 110, 116]) (w := W) h ok_s hn3)
 have T5 := fun W h => Lib.hid (eat9_yes (rb := rb) (s := s) (t := [100, 111]) (w := W) h ok_s hy)
 rw [e1] at T5
 have T6 := fun W h => Lib.hid (node9_n (rb := rb) (s := a1) (under := u) s.rows.length (Hg.Rd.nd 12) (w := W) h ok_a1 rfl (by first | exact hu | rfl | (rw [← e1]; exact hu) | (rw [← e1]; rfl)) (by first | exact hu | rfl | (rw [← e1]; exact hu) | (rw [← e1]; rfl)))
 rw [e2] at T6
 have T7 := fun W h => Lib.hid (name9_ok (rb := rb) (s := a2) (w := W) h ok_a2)
 rw [qx1, e3] at T7
 have T8 := fun W h => Lib.hid (call9_all f rb a3 s.rows.length x1 a4 W e4 h ok_a3 (by rw [E3.deep, E2.deep, E1.deep]; exact hdp) (hf.of G4) (len_a3) (by rw [← qx1]; exact ok_a2.text 1))
 have T9 := fun W h => Lib.hid (need9_ok (rb := rb) (s := a4) (t := [59]) (w := W) h ok_a4)
 rw [e5] at T9
 go_enter Tryz.func110, Tryz.ntmps110
 go_wp2_with (first
  | (go_at_call 72; ((with_reducible refine ((T1 _ hR).out).mono ?_); rintro e w1 ⟨rfl, hR1, hb1⟩))
  | (go_at_call 72; ((with_reducible refine ((T2 _ hR1).out).mono ?_); rintro e w2 ⟨rfl, hR2, hb2⟩))
  | (go_at_call 72; ((with_reducible refine ((T3 _ hR2).out).mono ?_); rintro e w3 ⟨rfl, hR3, hb3⟩))
  | (go_at_call 72; ((with_reducible refine ((T4 _ hR3).out).mono ?_); rintro e w4 ⟨rfl, hR4, hb4⟩))
  | (go_at_call 72; ((with_reducible refine ((T5 _ hR4).out).mono ?_); rintro e w5 ⟨rfl, hR5, hb5⟩))
  | (go_at_call 67; ((refine ((T6 _ hR5).out).mono ?_); rintro e w6 ⟨rfl, hR6, hb6⟩))
  | (go_at_call 69; ((with_reducible refine ((T7 _ hR6).out).mono ?_); rintro e w7 ⟨rfl, hR7, hb7⟩))
  | (go_at_call 137; ((with_reducible refine ((T8 _ hR7).out).mono ?_); rintro e w8 ⟨rfl, hR8, hb8⟩))
  | (go_at_call 68; ((with_reducible refine ((T9 _ hR8).out).mono ?_); rintro e w9 ⟨rfl, hR9, hb9⟩)))
 go_end0
 exact ⟨rfl, hR9, hb1.below.trans (hb2.below.trans (hb3.below.trans (hb4.below.trans (hb5.below.trans (hb6.trans (hb7.below.trans (hb8.trans (hb9.below))))))))⟩
set_option maxHeartbeats 2000000 in
set_option maxRecDepth 100000 in
theorem stmt9_assign (f : Nat) (rb : Nat) (s : Hg.Rd) (u : Nat) (w : World) (hR : RdAt w rb s) (ho : Okk s) (hdp : s.deep ≤ 90) (hlv : s.level ≤ s.deep) (hu : u < s.rows.length)
 (hn0 : s.next [108, 101, 116] = false) (hn1 : s.next [105, 102] = false) (hn2 : s.next [119, 104, 105, 108, 101] = false) (hn3 : s.next [112, 114, 105, 110, 116] = false) (hn4 : s.next [100, 111] = false)
 (a1 a2 a3 a4 a5 a6 a7 : Hg.Rd) (x1 : List UInt8) (id : Nat) (qx1 : s.text 1 = x1) (e1 : s.name = a1) (e2 : a1.node u (Hg.Rd.nd 7) = a2) (qid : (a2.find x1).1 = id) (e3 : (a2.find x1).2 = a3) (e4 : a3.setRef s.rows.length id = a4) (e5 : a4.need [61] = a5) (e6 : Hg.Rd.expr f a5 s.rows.length = some a6) (e7 : a6.need [59] = a7) (hf : Fin_ a7) :
 Calls Tryz.prog 110 #[.pointer (some ⟨rb, 0, none⟩), .int .i64 (u : Int)] w fun e w' => e = .returned (.tuple #[]) ∧ RdAt w' rb a7 ∧ Below rb w w' := by
 have E1 : Hg.Rd.SStep s a1 := by rw [← e1]; exact (Hg.Rd.es_name s).s
 have E2 : Hg.Rd.SStep a1 a2 := by rw [← e2]; exact (Hg.Rd.es_node a1 u _ rfl).s
 have E3 : Hg.Rd.SStep a2 a3 := by rw [← e3]; exact (Hg.Rd.es_find a2 x1).s
 have E4 : Hg.Rd.SStep a3 a4 := by rw [← e4]; exact (Hg.Rd.es_setRef a3 _ _).s
 have E5 : Hg.Rd.SStep a4 a5 := by rw [← e5]; exact (Hg.Rd.es_need a4 _).s
 have E6 : Hg.Rd.SStep a5 a6 := ((Hg.Rd.expr_es f).1 _ _ _ e6).s
 have E7 : Hg.Rd.SStep a6 a7 := by rw [← e7]; exact (Hg.Rd.es_need a6 _).s
 have G6 : Hg.Rd.Grow a6 a7 := E7.grow
 have G5 : Hg.Rd.Grow a5 a7 := E6.grow.trans G6
 have G4 : Hg.Rd.Grow a4 a7 := E5.grow.trans G5
 have G3 : Hg.Rd.Grow a3 a7 := E4.grow.trans G4
 have G2 : Hg.Rd.Grow a2 a7 := E3.grow.trans G3
 have G1 : Hg.Rd.Grow a1 a7 := E2.grow.trans G2
 have G0 : Hg.Rd.Grow s a7 := E1.grow.trans G1
 have ok_s : Okk s := ho
 have ok_a1 : Okk a1 := ok_s.ss E1 G1 hf
 have ok_a2 : Okk a2 := ok_a1.ss E2 G2 hf
 have ok_a3 : Okk a3 := ok_a2.ss E3 G3 hf
 have ok_a4 : Okk a4 := ok_a3.ss E4 G4 hf
 have ok_a5 : Okk a5 := ok_a4.ss E5 G5 hf
 have ok_a6 : Okk a6 := ok_a5.ss E6 G6 hf
 have hnl : s.rows.length < a2.rows.length := by rw [← e2, Hg.Rd.len_node]; rw [← e1, name_len]; exact Nat.lt_succ_self _
 have len_a3 : s.rows.length < a3.rows.length := Nat.lt_of_lt_of_le hnl E3.grow.len
 have len_a4 : s.rows.length < a4.rows.length := Nat.lt_of_lt_of_le len_a3 E4.grow.len
 have len_a5 : s.rows.length < a5.rows.length := Nat.lt_of_lt_of_le len_a4 E5.grow.len
 have len_a6 : s.rows.length < a6.rows.length := Nat.lt_of_lt_of_le len_a5 E6.grow.len
 have len_a7 : s.rows.length < a7.rows.length := Nat.lt_of_lt_of_le len_a6 E7.grow.len
 have T1 := fun W h => Lib.hid (eat9_no (rb := rb) (s := s) (t := [108, 101, 116]) (w := W) h ok_s hn0)
 have T2 := fun W h => Lib.hid (eat9_no (rb := rb) (s := s) (t := [105, 102]) (w := W) h ok_s hn1)
 have T3 := fun W h => Lib.hid (eat9_no (rb := rb) (s := s) (t := [119, 104, 105, 108, 101]) (w := W) h ok_s hn2)
 have T4 := fun W h => Lib.hid (eat9_no (rb := rb) (s := s) (t := [112, 114, 105, 110, 116]) (w := W) h ok_s hn3)
 have T5 := fun W h => Lib.hid (eat9_no (rb := rb) (s := s) (t := [100, 111]) (w := W) h ok_s hn4)
 have T6 := fun W h => Lib.hid (name9_ok (rb := rb) (s := s) (w := W) h ok_s)
 rw [qx1, e1] at T6
 have T7 := fun W h => Lib.hid (node9_n (rb := rb) (s := a1) (under := u) s.rows.length (Hg.Rd.nd 7) (w := W) h ok_a1 rfl (by first | (rw [← e1, name_len]; exact hu) | (rw [← e1, name_len])) (by first | (rw [← e1, name_len]; exact hu) | (rw [← e1, name_len])))
 rw [e2] at T7
 have T8 := fun W h => Lib.hid (find9_ok (rb := rb) (s := a2) (t := x1) (w := W) h ok_a2)
 rw [qid, e3] at T8
 have T9 := fun W h => Lib.hid (need9_ok (rb := rb) (s := a4) (t := [61]) (w := W) h ok_a4)
 rw [e5] at T9
 have T10 := fun W h => Lib.hid (expr9_any f rb a5 s.rows.length a6 W e6 h ok_a5 (by rw [E5.deep, E4.deep, E3.deep, E2.deep, E1.deep]; exact hdp) (hf.of G6) (len_a5))
 have T11 := fun W h => Lib.hid (need9_ok (rb := rb) (s := a6) (t := [59]) (w := W) h ok_a6)
 rw [e7] at T11
 go_enter Tryz.func110, Tryz.ntmps110
 go_upto_region 2 with (first
  | (go_at_call 72; ((with_reducible refine ((T1 _ hR).out).mono ?_); rintro e w1 ⟨rfl, hR1, hb1⟩))
  | (go_at_call 72; ((with_reducible refine ((T2 _ hR1).out).mono ?_); rintro e w2 ⟨rfl, hR2, hb2⟩))
  | (go_at_call 72; ((with_reducible refine ((T3 _ hR2).out).mono ?_); rintro e w3 ⟨rfl, hR3, hb3⟩))
  | (go_at_call 72; ((with_reducible refine ((T4 _ hR3).out).mono ?_); rintro e w4 ⟨rfl, hR4, hb4⟩))
  | (go_at_call 72; ((with_reducible refine ((T5 _ hR4).out).mono ?_); rintro e w5 ⟨rfl, hR5, hb5⟩))
  | (go_at_call 69; ((with_reducible refine ((T6 _ hR5).out).mono ?_); rintro e w6 ⟨rfl, hR6, hb6⟩))
  | (go_at_call 67; ((refine ((T7 _ hR6).out).mono ?_); rintro e w7 ⟨rfl, hR7, hb7⟩)))
 obtain ⟨g, c, c4, hg1, hg2, _⟩ := hR7.forCell (k := s.rows.length) (List.getElem?_eq_getElem hnl)
 have hHeld : (fun w' => w'.cell? ⟨rb, 4, none⟩ = some (.slice (some ⟨g, 0, none⟩) a2.rows.length c)) (World.drew w7) := c4
 refine wp_region_two (fun w' => w'.cell? ⟨rb, 4, none⟩ = some (.slice (some ⟨g, 0, none⟩) a2.rows.length c)) 8 (by kernel_rfl) ?_
 refine tk 0 ?_ rfl (by kernel_rfl) (fun _ _ _ h => h) ‹_› ?_ ?_ (tk 1 ?_ rfl (by kernel_rfl) (fun _ _ _ h => h) ‹_› ?_ ?_ (tk 2 ?_ rfl (by kernel_rfl) (fun _ _ _ h => h) ‹_› ?_ ?_ (tk 3 ?_ rfl (by kernel_rfl) (fun _ _ _ h => h) ‹_› ?_ ?_ (tk 4 ?_ rfl (by kernel_rfl) (fun _ _ _ h => h) ‹_› ?_ ?_ (tk 5 ?_ rfl (by kernel_rfl) (fun _ _ _ h => h) ‹_› ?_ ?_ (tk 6 ?_ rfl (by kernel_rfl) (fun _ _ _ h => h) ‹_› ?_ ?_ ?_))))))
 all_goals try (first | rfl | ((try simp only [Act.put, sA, sB, sC]); intro w' hSw; (try dsimp only at hSw); go_simp; try with_reducible rfl))
 try simp only [Act.put, sA, sB, sC]
 refine wpAnyT_one (i := 7) rfl (by kernel_rfl) (fun K hK => ?_)
 go_simp
 go_at_call 138
 refine ((T8 _ (hR7.drewN 1)).out).mono ?_
 rintro e w50 ⟨rfl, hR50, hb50⟩
 refine hK.out _ _ (hb50.c4.trans hHeld) (fun hHeld => ?_)
 clear hK K
 try simp only [Act.put, sA, sB, sC]
 refine wpAnyT_tail (by kernel_rfl) ?_
 simp only [List.drop_succ_cons, List.drop_zero]
 clear hHeld
 obtain ⟨g', c', c4', _, hg3, _, hcs, hfz, hset⟩ := hR50.forCell (k := s.rows.length) (List.getElem?_eq_getElem len_a3)
 have hgg := hb50.c4.symm.trans c4'
 rw [show (w7.drewN 1).cell? ⟨rb, 4, none⟩ = w7.cell? ⟨rb, 4, none⟩ from rfl, c4] at hgg
 injection hgg with hgg
 injection hgg with e1_ e2_ e3_
 injection e1_ with e1_
 injection e1_ with e1_
 subst e1_
 clear e3_
 obtain ⟨u5, hc5⟩ := hcs 5 (by omega)
 have hf5 := hfz (s.rows.length * 7 + 5)
 have HS := Lib.hid hset
 have hi1 : (0 : Int) ≤ (s.rows.length : Int) := by omega
 have hi2 : (s.rows.length : Int) < (a2.rows.length : Int) := by omega
 clear hset hcs hfz c4'
 go_wp2_with (first
  | (go_at_call 68; rw [show s.rows.length * 7 + 1 + 4 = s.rows.length * 7 + 5 by omega]; obtain ⟨r1, r2⟩ := HS.out 5 (.int .u64 (id : Int)) (fun x => { x with node := { x.node with ref := id } }) (by omega) (fun _ _ => rfl) (fun _ => rfl); replace r1 : RdAt _ rb a4 := (by rw [← e4]; exact r1); ((with_reducible refine ((T9 _ r1).out).mono ?_); rintro e w60 ⟨rfl, hR60, hb60⟩))
  | (go_at_call 111; ((with_reducible refine ((T10 _ hR60).out).mono ?_); rintro e w61 ⟨rfl, hR61, hb61⟩))
  | (go_at_call 68; ((with_reducible refine ((T11 _ hR61).out).mono ?_); rintro e w62 ⟨rfl, hR62, hb62⟩)))
 go_end0
 exact ⟨rfl, hR62, hb1.below.trans (hb2.below.trans (hb3.below.trans (hb4.below.trans (hb5.below.trans (hb6.below.trans (hb7.trans (((below_drewN (Below.refl _ _) 1).trans hb50.below).trans (r2.trans (hb60.below.trans (hb61.trans (hb62.below)))))))))))⟩
set_option maxHeartbeats 2000000 in
set_option maxRecDepth 100000 in
theorem stmt9_let (f : Nat) (rb : Nat) (s : Hg.Rd) (u : Nat) (w : World) (hR : RdAt w rb s) (ho : Okk s) (hdp : s.deep ≤ 90) (hlv : s.level ≤ s.deep) (hu : u < s.rows.length)
 (hy : s.next [108, 101, 116] = true)
 (a1 a2 a3 a4 a5 a6 a7 a8 a9 : Hg.Rd) (x1 : List UInt8) (ty : Nat) (e1 : s.step = a1) (qx1 : a1.text 1 = x1) (e2 : a1.name = a2) (e3 : a2.node u (Hg.Rd.ndNamed 6 x1) = a3) (qty : a3.typed.1 = ty) (e4 : a3.typed.2 = a4) (e5 : a4.setType s.rows.length ty = a5) (e6 : a5.need [61] = a6) (e7 : Hg.Rd.expr f a6 s.rows.length = some a7) (e8 : a7.declare x1 s.rows.length = a8) (e9 : a8.need [59] = a9) (hf : Fin_ a9) :
 Calls Tryz.prog 110 #[.pointer (some ⟨rb, 0, none⟩), .int .i64 (u : Int)] w fun e w' => e = .returned (.tuple #[]) ∧ RdAt w' rb a9 ∧ Below rb w w' := by
 have E1 : Hg.Rd.SStep s a1 := by rw [← e1]; exact (Hg.Rd.es_step s).s
 have E2 : Hg.Rd.SStep a1 a2 := by rw [← e2]; exact (Hg.Rd.es_name a1).s
 have E3 : Hg.Rd.SStep a2 a3 := by rw [← e3]; exact (Hg.Rd.es_node a2 u _ rfl).s
 have E4 : Hg.Rd.SStep a3 a4 := by rw [← e4]; exact (Hg.Rd.es_typed a3).s
 have E5 : Hg.Rd.SStep a4 a5 := by rw [← e5]; exact (Hg.Rd.es_setType a4 _ _).s
 have E6 : Hg.Rd.SStep a5 a6 := by rw [← e6]; exact (Hg.Rd.es_need a5 _).s
 have E7 : Hg.Rd.SStep a6 a7 := ((Hg.Rd.expr_es f).1 _ _ _ e7).s
 have E8 : Hg.Rd.SStep a7 a8 := by rw [← e8]; exact (by
  have S1 : Hg.Rd.EStep s a1 := by rw [← e1]; exact Hg.Rd.es_step s
  have S2 : Hg.Rd.EStep a1 a2 := by rw [← e2]; exact Hg.Rd.es_name a1
  have S3 : Hg.Rd.EStep a2 a3 := by rw [← e3]; exact Hg.Rd.es_node a2 u _ rfl
  have S4 : Hg.Rd.EStep a3 a4 := by rw [← e4]; exact Hg.Rd.es_typed a3
  have S5 : Hg.Rd.EStep a4 a5 := by rw [← e5]; exact Hg.Rd.es_setType a4 _ _
  have S6 : Hg.Rd.EStep a5 a6 := by rw [← e6]; exact Hg.Rd.es_need a5 _
  have S7 : Hg.Rd.EStep a6 a7 := (Hg.Rd.expr_es f).1 _ _ _ e7
  have g := ((S4.trans S5).trans (S6.trans S7)).grow.len
  have hl3 : a3.rows.length = s.rows.length + 1 := by rw [← e3, Hg.Rd.len_node, ← e2, name_len, ← e1]; rfl
  obtain ⟨d1, d2, d3, d4, d5, d6⟩ := Hg.Rd.declare_same a7 x1 s.rows.length
  exact ⟨Hg.Rd.grow_declare _ _ _, fun _ => (Hg.Rd.ss_declare (((S1.trans S2).trans (S3.trans S4)).trans ((S5.trans S6).trans S7)) (by omega) _ _).inv ho.inv, d1, d2, d3, d4, d5⟩)
 have E9 : Hg.Rd.SStep a8 a9 := by rw [← e9]; exact (Hg.Rd.es_need a8 _).s
 have G8 : Hg.Rd.Grow a8 a9 := E9.grow
 have G7 : Hg.Rd.Grow a7 a9 := E8.grow.trans G8
 have G6 : Hg.Rd.Grow a6 a9 := E7.grow.trans G7
 have G5 : Hg.Rd.Grow a5 a9 := E6.grow.trans G6
 have G4 : Hg.Rd.Grow a4 a9 := E5.grow.trans G5
 have G3 : Hg.Rd.Grow a3 a9 := E4.grow.trans G4
 have G2 : Hg.Rd.Grow a2 a9 := E3.grow.trans G3
 have G1 : Hg.Rd.Grow a1 a9 := E2.grow.trans G2
 have G0 : Hg.Rd.Grow s a9 := E1.grow.trans G1
 have ok_s : Okk s := ho
 have ok_a1 : Okk a1 := ok_s.ss E1 G1 hf
 have ok_a2 : Okk a2 := ok_a1.ss E2 G2 hf
 have ok_a3 : Okk a3 := ok_a2.ss E3 G3 hf
 have ok_a4 : Okk a4 := ok_a3.ss E4 G4 hf
 have ok_a5 : Okk a5 := ok_a4.ss E5 G5 hf
 have ok_a6 : Okk a6 := ok_a5.ss E6 G6 hf
 have ok_a7 : Okk a7 := ok_a6.ss E7 G7 hf
 have ok_a8 : Okk a8 := ok_a7.ss E8 G8 hf
 have hnl : s.rows.length < a3.rows.length := by rw [← e3, Hg.Rd.len_node]; rw [← e2, name_len, ← e1]; exact Nat.lt_succ_self _
 have len_a4 : s.rows.length < a4.rows.length := Nat.lt_of_lt_of_le hnl E4.grow.len
 have len_a5 : s.rows.length < a5.rows.length := Nat.lt_of_lt_of_le len_a4 E5.grow.len
 have len_a6 : s.rows.length < a6.rows.length := Nat.lt_of_lt_of_le len_a5 E6.grow.len
 have len_a7 : s.rows.length < a7.rows.length := Nat.lt_of_lt_of_le len_a6 E7.grow.len
 have len_a8 : s.rows.length < a8.rows.length := Nat.lt_of_lt_of_le len_a7 E8.grow.len
 have len_a9 : s.rows.length < a9.rows.length := Nat.lt_of_lt_of_le len_a8 E9.grow.len
 have T1 := fun W h => Lib.hid (eat9_yes (rb := rb) (s := s) (t := [108, 101, 116]) (w := W) h ok_s hy)
 rw [e1] at T1
 have T2 := fun W h => Lib.hid (name9_ok (rb := rb) (s := a1) (w := W) h ok_a1)
 rw [qx1, e2] at T2
 have T3 := fun W h => Lib.hid (node9_n (rb := rb) (s := a2) (under := u) s.rows.length (Hg.Rd.ndNamed 6 x1) (w := W) h ok_a2 rfl (by first | (rw [← e2, name_len, ← e1]; exact hu) | (rw [← e2, name_len, ← e1]; rfl)) (by first | (rw [← e2, name_len, ← e1]; exact hu) | (rw [← e2, name_len, ← e1]; rfl)))
 rw [e3] at T3
 have T4 := fun W h => Lib.hid (typed9_ok (rb := rb) (s := a3) (w := W) h ok_a3)
 rw [qty, e4] at T4
 have T5 := fun W h => Lib.hid (need9_ok (rb := rb) (s := a5) (t := [61]) (w := W) h ok_a5)
 rw [e6] at T5
 have T6 := fun W h => Lib.hid (expr9_any f rb a6 s.rows.length a7 W e7 h ok_a6 (by rw [E6.deep, E5.deep, E4.deep, E3.deep, E2.deep, E1.deep]; exact hdp) (hf.of G7) (len_a6))
 have T7 := fun W h => Lib.hid (declare9_ok (rb := rb) (s := a7) (t := x1) (k := s.rows.length) (w := W) h ok_a7 (len_a7))
 rw [e8] at T7
 have T8 := fun W h => Lib.hid (need9_ok (rb := rb) (s := a8) (t := [59]) (w := W) h ok_a8)
 rw [e9] at T8
 go_enter Tryz.func110, Tryz.ntmps110
 go_upto_region 9 with (first
  | (go_at_call 72; ((with_reducible refine ((T1 _ hR).out).mono ?_); rintro e w1 ⟨rfl, hR1, hb1⟩))
  | (go_at_call 69; ((with_reducible refine ((T2 _ hR1).out).mono ?_); rintro e w2 ⟨rfl, hR2, hb2⟩))
  | (go_at_call 67; ((refine ((T3 _ hR2).out).mono ?_); rintro e w3 ⟨rfl, hR3, hb3⟩)))
 obtain ⟨g, c, c4, hg1, hg2, _⟩ := hR3.forCell (k := s.rows.length) (List.getElem?_eq_getElem hnl)
 have hHeld : (fun w' => w'.cell? ⟨rb, 4, none⟩ = some (.slice (some ⟨g, 0, none⟩) a3.rows.length c)) (World.drew w3) := c4
 refine wp_region_two (fun w' => w'.cell? ⟨rb, 4, none⟩ = some (.slice (some ⟨g, 0, none⟩) a3.rows.length c)) 7 (by kernel_rfl) ?_
 refine tk 0 ?_ rfl (by kernel_rfl) (fun _ _ _ h => h) ‹_› ?_ ?_ (tk 1 ?_ rfl (by kernel_rfl) (fun _ _ _ h => h) ‹_› ?_ ?_ (tk 2 ?_ rfl (by kernel_rfl) (fun _ _ _ h => h) ‹_› ?_ ?_ (tk 3 ?_ rfl (by kernel_rfl) (fun _ _ _ h => h) ‹_› ?_ ?_ (tk 4 ?_ rfl (by kernel_rfl) (fun _ _ _ h => h) ‹_› ?_ ?_ (tk 5 ?_ rfl (by kernel_rfl) (fun _ _ _ h => h) ‹_› ?_ ?_ ?_)))))
 all_goals try (first | rfl | ((try simp only [Act.put, sA, sB, sC]); intro w' hSw; (try dsimp only at hSw); go_simp; try with_reducible rfl))
 try simp only [Act.put, sA, sB, sC]
 refine wpAnyT_one (i := 6) rfl (by kernel_rfl) (fun K hK => ?_)
 go_simp
 go_at_call 108
 refine ((T4 _ (hR3.drewN 1)).out).mono ?_
 rintro e w50 ⟨rfl, hR50, hb50⟩
 refine hK.out _ _ (hb50.c4.trans hHeld) (fun hHeld => ?_)
 clear hK K
 try simp only [Act.put, sA, sB, sC]
 refine wpAnyT_tail (by kernel_rfl) ?_
 simp only [List.drop_succ_cons, List.drop_zero]
 clear hHeld
 obtain ⟨g', c', c4', _, hg3, _, hcs, hfz, hset⟩ := hR50.forCell (k := s.rows.length) (List.getElem?_eq_getElem len_a4)
 have hgg := hb50.c4.symm.trans c4'
 rw [show (w3.drewN 1).cell? ⟨rb, 4, none⟩ = w3.cell? ⟨rb, 4, none⟩ from rfl, c4] at hgg
 injection hgg with hgg
 injection hgg with e1_ e2_ e3_
 injection e1_ with e1_
 injection e1_ with e1_
 subst e1_
 clear e3_
 obtain ⟨u5, hc5⟩ := hcs 4 (by omega)
 have hf5 := hfz (s.rows.length * 7 + 4)
 have HS := Lib.hid hset
 have hi1 : (0 : Int) ≤ (s.rows.length : Int) := by omega
 have hi2 : (s.rows.length : Int) < (a3.rows.length : Int) := by omega
 clear hset hcs hfz c4'
 go_wp2_with (first
  | (go_at_call 68; rw [show s.rows.length * 7 + 1 + 3 = s.rows.length * 7 + 4 by omega]; obtain ⟨r1, r2⟩ := HS.out 4 (.int .u8 (ty : Int)) (fun x => { x with node := { x.node with type := ty } }) (by omega) (fun _ _ => rfl) (fun _ => rfl); replace r1 : RdAt _ rb a5 := (by rw [← e5]; exact r1); ((with_reducible refine ((T5 _ r1).out).mono ?_); rintro e w60 ⟨rfl, hR60, hb60⟩))
  | (go_at_call 111; ((with_reducible refine ((T6 _ hR60).out).mono ?_); rintro e w61 ⟨rfl, hR61, hb61⟩))
  | (go_at_call 109; ((with_reducible refine ((T7 _ hR61).out).mono ?_); rintro e w62 ⟨rfl, hR62, hb62⟩))
  | (go_at_call 68; ((with_reducible refine ((T8 _ hR62).out).mono ?_); rintro e w63 ⟨rfl, hR63, hb63⟩)))
 go_end0
 exact ⟨rfl, hR63, hb1.below.trans (hb2.below.trans (hb3.trans (((below_drewN (Below.refl _ _) 1).trans hb50.below).trans (r2.trans (hb60.below.trans (hb61.trans (hb62.trans (hb63.below))))))))⟩
end Go.Proofs.YtihmbbkppkgcmaaGreatDoor
namespace Go.Proofs.YtihmbbkppkgcmaaGreatDoor
open Go.RowKit
theorem stmt9_succ (f : Nat) (ihB : BlockC f) : StmtC (f + 1) := by
 intro rb s u s' w h hR ho hdp hlv hf hu
 rw [Hg.Rd.stmt] at h
 try dsimp only at h
 by_cases h1 : s.next Hg.wLet = true
 ·
  rw [if_pos h1] at h
  generalize e1 : s.step = a1 at h
  generalize q1 : a1.text 1 = x1 at h
  generalize e2 : a1.name = a2 at h
  generalize e3 : a2.node u (Hg.Rd.ndNamed 6 x1) = a3 at h
  generalize qty : a3.typed.1 = ty at h
  generalize e4 : a3.typed.2 = a4 at h
  generalize e5 : a4.setType s.rows.length ty = a5 at h
  generalize e6 : a5.need [61] = a6 at h
  cases e7 : Hg.Rd.expr f a6 s.rows.length with
  | none => rw [e7] at h; simp at h
  | some a7 =>
    rw [e7] at h
    injection h with h
    exact stmt9_let f rb s u w hR ho hdp hlv hu h1 a1 a2 a3 a4 a5 a6 a7 _ _ x1 ty e1 q1 e2 e3 qty e4 e5 e6 e7 rfl h hf
 rw [if_neg h1] at h
 have n1 : s.next Hg.wLet = false := by simpa using h1
 by_cases h2 : s.next Hg.wIf = true
 ·
  rw [if_pos h2] at h
  generalize e1 : s.step = a1 at h
  generalize e2 : a1.node u (Hg.Rd.nd 8) = a2 at h
  cases e3 : Hg.Rd.expr f a2 s.rows.length with
  | none => rw [e3] at h; simp at h
  | some a3 =>
    rw [e3] at h
    dsimp only at h
    cases e4 : Hg.Rd.block f a3 s.rows.length with
    | none => rw [e4] at h; simp at h
    | some a4 =>
      rw [e4] at h
      dsimp only at h
      exact stmt9_if f ihB rb s u w hR ho hdp hlv hu n1 h2 a1 a2 a3 a4 _ _ e1 e2 e3 e4 rfl h hf
 rw [if_neg h2] at h
 have n2 : s.next Hg.wIf = false := by simpa using h2
 by_cases h3 : s.next Hg.wWhile = true
 ·
  rw [if_pos h3] at h
  generalize e1 : s.step = a1 at h
  generalize e2 : a1.node u (Hg.Rd.nd 9) = a2 at h
  cases e3 : Hg.Rd.expr f a2 s.rows.length with
  | none => rw [e3] at h; simp at h
  | some a3 =>
    rw [e3] at h
    dsimp only at h
    exact stmt9_while f ihB rb s u w hR ho hdp hlv hu n1 n2 h3 a1 a2 a3 _ e1 e2 e3 h hf
 rw [if_neg h3] at h
 have n3 : s.next Hg.wWhile = false := by simpa using h3
 by_cases h4 : s.next Hg.wPrint = true
 ·
  rw [if_pos h4] at h
  generalize e1 : s.step = a1 at h
  generalize e2 : a1.node u (Hg.Rd.nd 11) = a2 at h
  cases e3 : Hg.Rd.expr f a2 s.rows.length with
  | none => rw [e3] at h; simp at h
  | some a3 =>
    rw [e3] at h
    injection h with h
    exact stmt9_print f rb s u w hR ho hdp hlv hu n1 n2 n3 h4 a1 a2 a3 _ e1 e2 e3 h hf
 rw [if_neg h4] at h
 have n4 : s.next Hg.wPrint = false := by simpa using h4
 by_cases h5 : s.next Hg.wDo = true
 ·
  rw [if_pos h5] at h
  generalize e1 : s.step = a1 at h
  generalize e2 : a1.node u (Hg.Rd.nd 12) = a2 at h
  generalize q1 : a2.text 1 = x1 at h
  generalize e3 : a2.name = a3 at h
  cases e4 : Hg.Rd.call f a3 s.rows.length x1 with
  | none => rw [e4] at h; simp at h
  | some a4 =>
    rw [e4] at h
    injection h with h
    exact stmt9_do f rb s u w hR ho hdp hlv hu n1 n2 n3 n4 h5 a1 a2 a3 a4 _ x1 e1 e2 q1 e3 e4 h hf
 rw [if_neg h5] at h
 have n5 : s.next Hg.wDo = false := by simpa using h5
 generalize q1 : s.text 1 = x1 at h
 generalize e1 : s.name = a1 at h
 generalize e2 : a1.node u (Hg.Rd.nd 7) = a2 at h
 generalize qid : (a2.find x1).1 = id at h
 generalize e3 : (a2.find x1).2 = a3 at h
 generalize e4 : a3.setRef s.rows.length id = a4 at h
 generalize e5 : a4.need [61] = a5 at h
 cases e6 : Hg.Rd.expr f a5 s.rows.length with
 | none => rw [e6] at h; simp at h
 | some a6 =>
   rw [e6] at h
   injection h with h
   exact stmt9_assign f rb s u w hR ho hdp hlv hu n1 n2 n3 n4 n5 a1 a2 a3 a4 a5 a6 _ x1 id q1 e1 e2 qid e3 e4 e5 e6 h hf
theorem stmt9_all (f : Nat) : StmtC f ∧ BlockC f := by
 induction f using Nat.strongRecOn with
 | _ f ih =>
   cases f with
   | zero => exact ⟨fun rb s u s' w he => by simp [Hg.Rd.stmt] at he, fun rb s u s' w he => by simp [Hg.Rd.block] at he⟩
   | succ f => exact ⟨stmt9_succ f (ih f (Nat.lt_succ_self f)).2, block9_any f fun g hg => (ih g (by omega)).1⟩
end Go.Proofs.YtihmbbkppkgcmaaGreatDoor
