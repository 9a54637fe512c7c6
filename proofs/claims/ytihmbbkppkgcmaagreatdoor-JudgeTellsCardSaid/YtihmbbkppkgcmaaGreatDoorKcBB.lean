/-
  Part of a proof: contracts of functions that the claim reaches, and plain lemmas.
-/
import Derived.Test.YtihmbbkppkgcmaaGreatDoorKcBA
import Derived.Test.YtihmbbkppkgcmaaGreatDoorKcAA
set_option linter.all false
namespace Go.Proofs.YtihmbbkppkgcmaaGreatDoor
open Go.RowKit
theorem RdAt.openLists {w : World} {rb : Nat} {s : Hg.Rd} (h : RdAt w rb s) :
 RdAt (((w.setCell ⟨rb, 11, none⟩ (.slice none 0 0)).setCell ⟨rb, 12, none⟩ (.slice none 0 0)).setCell ⟨rb, 13, none⟩ (.int .i64 0)) rb { s with used := [], seen := [], level := 0 } := by
 obtain ⟨vL, vR, vM, vF, vI, vC, vW, vU, vS, ks, h1, h2, h3, h4⟩ := h
 have g0 : ∀ r, w.grownBy w r := fun r => ⟨rfl, rfl, rfl, Nat.le_refl _, fun _ _ _ => rfl⟩
 have h5 := OwnAll.turn (l1 := [⟨vR, 33, 7, s.rows.length, rowsCells s.rows ks⟩, ⟨vM, 9, 1, s.mods.length, s.mods.map strV⟩, ⟨vF, 9, 1, s.funcs.length, s.funcs.map strV⟩,
  ⟨vI, 28, 1, s.ids.length, s.ids.map idV⟩, ⟨vC, 28, 1, s.calls.length, s.calls.map idV⟩, ⟨vW, 9, 1, s.wants.length, s.wants.map strV⟩])
  (o := ⟨vU, 9, 1, s.used.length, s.used.map strV⟩) (l2 := ⟨vS, 181, 3, s.seen.length, s.seen.flatMap boundCells⟩ :: kidsOwn s.rows ks) (o' := Own.nil 9 1) h4 (World.ownsRow_nil _ _ _ _) (g0 _) (fun g hg => by simp [Own.nil, Value.ownBlock] at hg)
 have h6 : OwnAll w (rb + 1) (([⟨vR, 33, 7, s.rows.length, rowsCells s.rows ks⟩, ⟨vM, 9, 1, s.mods.length, s.mods.map strV⟩, ⟨vF, 9, 1, s.funcs.length, s.funcs.map strV⟩,
  ⟨vI, 28, 1, s.ids.length, s.ids.map idV⟩, ⟨vC, 28, 1, s.calls.length, s.calls.map idV⟩, ⟨vW, 9, 1, s.wants.length, s.wants.map strV⟩] ++ [Own.nil 9 1]) ++ (⟨vS, 181, 3, s.seen.length, s.seen.flatMap boundCells⟩ : Own) :: kidsOwn s.rows ks) := h5
 have h7 := OwnAll.turn (o' := Own.nil 181 3) h6 (World.ownsRow_nil _ _ _ _) (g0 _) (fun g hg => by simp [Own.nil, Value.ownBlock] at hg)
 have h8 := ((h7.setCell (p := ⟨rb, 11, none⟩) (Nat.lt_succ_self _) (.slice none 0 0)).setCell (p := ⟨rb, 12, none⟩) (Nat.lt_succ_self _) (.slice none 0 0)).setCell (p := ⟨rb, 13, none⟩) (Nat.lt_succ_self _) (.int .i64 0)
 refine ⟨vL, vR, vM, vF, vI, vC, vW, .slice none 0 0, .slice none 0 0, ks, ?_, ?_, h3, ?_⟩
 ·
  exact heap_setCell_same (heap_setCell_same (heap_setCell_same h1 _) _) _
 ·
  exact ((h2.setCell (p := ⟨rb, 11, none⟩) (Nat.le_refl _) _).setCell (p := ⟨rb, 12, none⟩) (Nat.le_refl _) _).setCell (p := ⟨rb, 13, none⟩) (Nat.le_refl _) _
 ·
  simpa [rdOwn, Own.nil] using h8
def FuncC (f : Nat) : Prop := ∀ (rb : Nat) (s : Hg.Rd) (u : Nat) (m : List UInt8) (s' : Hg.Rd) (w : World), Hg.Rd.func f s u m = some s' → RdAt w rb s → Okk s → s.deep ≤ 90 → Fin_ s' → u < s.rows.length → m.length ≤ 1000000 →
 Calls Tryz.prog 73 #[.pointer (some ⟨rb, 0, none⟩), .int .i64 (u : Int), strV m] w fun e w' => e = .returned (.tuple #[]) ∧ RdAt w' rb s' ∧ Below rb w w'
def ParamsR (rb n : Nat) (sE : Hg.Rd) (w0 : World) (k : Nat) (p : Value) (wr : World) : Prop :=
 ∃ (b : Bool) (t : Hg.Rd), p = .bool b ∧ Hg.Rd.params k b t n = some sE ∧ RdAt wr rb t ∧ Okk t ∧ n < t.rows.length ∧ Below rb w0 wr
def BodyR (rb n : Nat) (sE : Hg.Rd) (w0 : World) (k : Nat) (wr : World) : Prop :=
 ∃ (t : Hg.Rd), Hg.Rd.body k t n = some sE ∧ RdAt wr rb t ∧ Okk t ∧ t.deep ≤ 90 ∧ t.level ≤ t.deep ∧ n < t.rows.length ∧ Below rb w0 wr
theorem Okk.fs {s a s' : Hg.Rd} (h : Okk s) (e : Hg.Rd.FStep s a) (hv : a.level ≤ 1000) (g : Hg.Rd.Grow a s') (hf : Fin_ s') : Okk a :=
 ⟨e.inv h.inv, hf.of g, by rw [e.deep]; exact h.deep, hv⟩
set_option maxHeartbeats 4000000 in
set_option maxRecDepth 100000 in
theorem function9_any (f : Nat) : FuncC f := by
 intro rb s u m s' w h hR ho hdp hf hu hm
 obtain ⟨j0, hj, hj0, hj1, hj2⟩ := info_parts idInfo
 obtain ⟨k0, hk, hk0, hk1, hk2⟩ := info_parts strInfo
 unfold Hg.Rd.func at h
 dsimp only at h
 rw [show m ++ [32] ++ (s.need Hg.wFunc).text 1 = m ++ 32 :: (s.need Hg.wFunc).text 1 by simp] at h
 generalize e1 : s.need Hg.wFunc = a1 at h
 generalize qx : a1.text 1 = x at h
 generalize e2 : a1.name = a2 at h
 have A1 : Hg.Rd.EStep s a1 := by rw [← e1]; exact Hg.Rd.es_need _ _
 have A2 : Hg.Rd.EStep a1 a2 := by rw [← e2]; exact Hg.Rd.es_name _
 have A3 : Hg.Rd.EStep a2 (if Hg.inL a2.funcs (m ++ 32 :: x) = true then a2.fault 10 else a2) := Hg.Rd.clash_fs _ _
 generalize e3 : (if Hg.inL a2.funcs (m ++ 32 :: x) = true then a2.fault 10 else a2) = a3 at h A3
 generalize hkk : a3.rows.length = k at h
 generalize e4 : a3.node u (Hg.Rd.ndNamed 3 x) = a4 at h
 have A4 : Hg.Rd.EStep a3 a4 := by rw [← e4]; exact Hg.Rd.es_node _ _ _ rfl
 have hl4 : a4.rows.length = k + 1 := by rw [← e4, Hg.Rd.len_node, hkk]
 have A14 : Hg.Rd.EStep s a4 := (A1.trans A2).trans (A3.trans A4)
 generalize ecid : a4.idAt k = cid at h
 generalize e6 : ({ a4 with funcs := a4.funcs ++ [m ++ 32 :: x], ids := a4.ids ++ [cid], used := [], seen := [], level := 0 } : Hg.Rd) = a6 at h
 obtain ⟨a5, e5⟩ : ∃ a5, ({ a4 with funcs := a4.funcs ++ [m ++ 32 :: x], ids := a4.ids ++ [cid] } : Hg.Rd) = a5 := ⟨_, rfl⟩
 have e56 : ({ a5 with used := [], seen := [], level := 0 } : Hg.Rd) = a6 := by rw [← e5, ← e6]
 have A6 : Hg.Rd.FStep s a6 := by rw [← e6, ← ecid]; exact Hg.Rd.fs_open A14.s.f A14.funcs (by have := (A1.trans (A2.trans A3)).grow.len; omega) _ _
 have hv6 : a6.level = 0 := by rw [← e6]
 have hr6 : a6.rows = a4.rows := by rw [← e6]
 have g46 : Hg.Rd.Grow a4 a6 := by rw [← e6]; exact Hg.Rd.grow_same rfl (Nat.le_refl _) id rfl
 generalize e7 : a6.need [40] = a7 at h
 have A7 : Hg.Rd.SStep a6 a7 := by rw [← e7]; exact (Hg.Rd.es_need _ _).s
 cases e8 : Hg.Rd.params f true a7 k with
 | none => rw [e8] at h; simp at h
 | some a8 =>
 rw [e8] at h
 dsimp only at h
 have A8 : Hg.Rd.SStep a7 a8 := Hg.Rd.params_ss _ _ _ _ _ e8
 generalize qty : a8.typed.1 = ty at h
 generalize e9 : a8.typed.2 = a9 at h
 have A9 : Hg.Rd.SStep a8 a9 := by rw [← e9]; exact (Hg.Rd.es_typed _).s
 generalize e10 : a9.setType k ty = a10 at h
 have A10 : Hg.Rd.SStep a9 a10 := by rw [← e10]; exact (Hg.Rd.es_setType _ _ _).s
 generalize qb : a10.rows.length = b at h
 generalize e11 : a10.node k (Hg.Rd.nd 5) = a11 at h
 have A11 : Hg.Rd.SStep a10 a11 := by rw [← e11]; exact (Hg.Rd.es_node _ _ _ rfl).s
 have hl11 : a11.rows.length = b + 1 := by rw [← e11, Hg.Rd.len_node, qb]
 generalize e12 : a11.need [123] = a12 at h
 have A12 : Hg.Rd.SStep a11 a12 := by rw [← e12]; exact (Hg.Rd.es_need _ _).s
 cases e13 : Hg.Rd.body f a12 b with
 | none => rw [e13] at h; simp at h
 | some a13 =>
 rw [e13] at h
 dsimp only at h
 have A13 : Hg.Rd.SStep a12 a13 := Hg.Rd.body_ss _ _ _ _ e13
 generalize e14 : a13.need Hg.wReturn = a14 at h
 have A14' : Hg.Rd.SStep a13 a14 := by rw [← e14]; exact (Hg.Rd.es_need _ _).s
 generalize qn : a14.rows.length = n at h
 generalize e15 : a14.node b (Hg.Rd.nd 10) = a15 at h
 have A15 : Hg.Rd.SStep a14 a15 := by rw [← e15]; exact (Hg.Rd.es_node _ _ _ rfl).s
 have hl15 : a15.rows.length = n + 1 := by rw [← e15, Hg.Rd.len_node, qn]
 cases e16 : Hg.Rd.expr f a15 n with
 | none => rw [e16] at h; simp at h
 | some a16 =>
 rw [e16] at h
 injection h with e18
 have A16 : Hg.Rd.SStep a15 a16 := ((Hg.Rd.expr_es f).1 _ _ _ e16).s
 generalize e17 : a16.need [59] = a17 at e18
 have A17 : Hg.Rd.SStep a16 a17 := by rw [← e17]; exact (Hg.Rd.es_need _ _).s
 have A18 : Hg.Rd.SStep a17 s' := by rw [← e18]; exact (Hg.Rd.es_need _ _).s
 have G17 := A18.grow
 have G16 := A17.grow.trans G17
 have G15 := A16.grow.trans G16
 have G14 := A15.grow.trans G15
 have G13 := A14'.grow.trans G14
 have G12 := A13.grow.trans G13
 have G11 := A12.grow.trans G12
 have G10 := A11.grow.trans G11
 have G9 := A10.grow.trans G10
 have G8 := A9.grow.trans G9
 have G7 := A8.grow.trans G8
 have G6 := A7.grow.trans G7
 have G4 := g46.trans G6
 have G3 := A4.grow.trans G4
 have G2 := A3.grow.trans G3
 have G1 := A2.grow.trans G2
 have o1 : Okk a1 := ho.es A1 G1 hf
 have o2 : Okk a2 := o1.es A2 G2 hf
 have o3 : Okk a3 := o2.es A3 G3 hf
 have o4 : Okk a4 := o3.es A4 G4 hf
 have o6 : Okk a6 := ho.fs A6 (by omega) G6 hf
 have o7 : Okk a7 := o6.ss A7 G7 hf
 have o8 : Okk a8 := o7.ss A8 G8 hf
 have o9 : Okk a9 := o8.ss A9 G9 hf
 have o10 : Okk a10 := o9.ss A10 G10 hf
 have o11 : Okk a11 := o10.ss A11 G11 hf
 have o12 : Okk a12 := o11.ss A12 G12 hf
 have o13 : Okk a13 := o12.ss A13 G13 hf
 have o14 : Okk a14 := o13.ss A14' G14 hf
 have o15 : Okk a15 := o14.ss A15 G15 hf
 have o16 : Okk a16 := o15.ss A16 G16 hf
 have o17 : Okk a17 := o16.ss A17 G17 hf
 have hd6 : a6.deep ≤ 90 := by rw [A6.deep]; exact hdp
 have hd12 : a12.deep ≤ 90 := by rw [A12.deep, A11.deep, A10.deep, A9.deep, A8.deep, A7.deep]; exact hd6
 have hv12 : a12.level ≤ a12.deep := by rw [A12.level, A11.level, A10.level, A9.level, A8.level, A7.level, hv6]; omega
 have hd15 : a15.deep ≤ 90 := by rw [A15.deep, A14'.deep, A13.deep]; exact hd12
 have hu3 : u < a3.rows.length := Nat.lt_of_lt_of_le hu (A1.trans (A2.trans A3)).grow.len
 have hk7 : k < a7.rows.length := by have := A7.grow.len; rw [hr6] at this; omega
 have hk8 : k < a8.rows.length := Nat.lt_of_lt_of_le hk7 A8.grow.len
 have hk9 : k < a9.rows.length := Nat.lt_of_lt_of_le hk8 A9.grow.len
 have hk10 : k < a10.rows.length := Nat.lt_of_lt_of_le hk9 A10.grow.len
 have hb12 : b < a12.rows.length := by have := A12.grow.len; omega
 have hb14 : b < a14.rows.length := Nat.lt_of_lt_of_le hb12 (A13.grow.trans A14'.grow).len
 have hx : x.length ≤ 1000000 := by rw [← qx]; exact o1.text 1
 have T1 := fun W h => Lib.hid (need9_ok (rb := rb) (s := s) (t := [102, 117, 110, 99]) (w := W) h ho)
 rw [show s.need [102, 117, 110, 99] = a1 from e1] at T1
 have T2 := fun W h => Lib.hid (name9_ok (rb := rb) (s := a1) (w := W) h o1)
 rw [qx, e2] at T2
 have T4 := fun W h => Lib.hid (node9_n (rb := rb) (s := a3) (under := u) k (Hg.Rd.ndNamed 3 x) (w := W) h o3 rfl hu3 hkk)
 rw [e4] at T4
 have T7 := fun W h => Lib.hid (need9_ok (rb := rb) (s := a6) (t := [40]) (w := W) h o6)
 rw [e7] at T7
 have T9 := fun W h => Lib.hid (typed9_ok (rb := rb) (s := a8) (w := W) h o8)
 rw [qty, e9] at T9
 have T11 := fun W h => Lib.hid (node9_n (rb := rb) (s := a10) (under := k) b (Hg.Rd.nd 5) (w := W) h o10 rfl hk10 qb)
 rw [e11] at T11
 have T12 := fun W h => Lib.hid (need9_ok (rb := rb) (s := a11) (t := [123]) (w := W) h o11)
 rw [e12] at T12
 have T14 := fun W h => Lib.hid (need9_ok (rb := rb) (s := a13) (t := [114, 101, 116, 117, 114, 110]) (w := W) h o13)
 rw [show a13.need [114, 101, 116, 117, 114, 110] = a14 from e14] at T14
 have T15 := fun W h => Lib.hid (node9_n (rb := rb) (s := a14) (under := b) n (Hg.Rd.nd 10) (w := W) h o14 rfl hb14 qn)
 rw [e15] at T15
 have T16 := fun W h => Lib.hid (expr9_any f rb a15 n a16 W e16 h o15 hd15 (hf.of G16) (by omega))
 have T17 := fun W h => Lib.hid (need9_ok (rb := rb) (s := a16) (t := [59]) (w := W) h o16)
 rw [e17] at T17
 have T18 := fun W h => Lib.hid (need9_ok (rb := rb) (s := a17) (t := [125]) (w := W) h o17)
 rw [e18] at T18
 have hcat1 : ¬ 9223372036854775807 < m.length + 1 := by omega
 have hcat2 : ¬ 9223372036854775807 < m.length + 1 + x.length := by omega
 have hcat3 : ¬ 9223372036854775807 < m.length + (x.length + 1) := by omega
 have hk4 : k < a4.rows.length := by omega
 have hA4 := A4.grow.len
 clear e1 qx e2 e4 e7 qty e9 e11 e12 e14 e15 e16 e17 e18 qb qn hl4 hl11 hl15 hr6 hv6 hkk
 go_enter Tryz.func73, Tryz.ntmps73
 go_upto_if 24 with (first
  | (go_at_call 68; ((with_reducible refine ((T1 _ hR).out).mono ?_); rintro e w1 ⟨rfl, hR1, hb1⟩))
  | (go_at_call 69; ((with_reducible refine ((T2 _ hR1).out).mono ?_); rintro e w2 ⟨rfl, hR2, hb2⟩; obtain ⟨aF, cF, _, _, k7, _, hoF, _⟩ := hR2.more_funcs; have HOF := Lib.hid hoF; clear hoF))
  | (go_at_call 70; refine (has_any w2.heap.size _ a2.funcs (m ++ 32 :: x) _ (Sl.of_own HOF.out) (by have := o2.inv.funcs; have := o2.fin.rows; omega)).mono ?_; rintro e w' ⟨rfl, rfl⟩))
 go_cut [] from 24 (fun wx => RdAt wx rb a3 ∧ Below rb w2 wx)
 case first =>
  by_cases hin : Hg.inL a2.funcs (m ++ 32 :: x) = true
  ·
   rw [hin]
   rw [if_pos hin] at e3
   go_wp2_with (go_at_call 71; refine (fault9_any rb a2 10 _ hR2).mono ?_; rintro e w3 ⟨rfl, hR3, hb3⟩)
   go_meet
   case rel => exact ⟨by rw [← e3]; exact hR3, hb3.below⟩
  ·
   have hin2 : Hg.inL a2.funcs (m ++ 32 :: x) = false := by simpa using hin
   rw [if_neg hin] at e3
   rw [hin2]
   clear hin hin2
   go_wp2
   go_meet
   case rel => exact ⟨by rw [← e3]; exact hR2, Below.refl _ _⟩
 case rest =>
  obtain ⟨hR3, hb3⟩ := hcut
  have hBw : Below rb w wc := hb1.below.trans (hb2.below.trans hb3)
  clear e3 hR hR1 hR2 hb1 hb2 hb3 k7 HOF T1 T2
  go_upto_region 5 with (go_at_call 67; refine ((T4 _ hR3).out).mono ?_; rintro e w4 ⟨rfl, hR4, hb4⟩)
  go_cut [] from 32 (fun wx => RdAt wx rb a5 ∧ Below rb w4 wx)
  case first =>
   obtain ⟨q1, c1, q2, c2, k9, k10, hown1, hrb1, hrb2, hneR, hstep⟩ := hR4.more_funcs
   obtain ⟨g, c, k4, hg1, hg2, kid, _, _, _⟩ := hR4.forCell (k := k) (List.getElem?_eq_getElem hk4)
   rw [← idAt_get (List.getElem?_eq_getElem hk4), ecid] at kid
   have HM0 := Lib.hid (show (some rb ≠ Value.ownBlock (.slice q1 a4.funcs.length c1)) ∧ (some rb ≠ Value.ownBlock (.slice q2 a4.ids.length c2)) from ⟨fun e => absurd (hrb1 rb e.symm) (Nat.lt_irrefl _), fun e => absurd (hrb2 rb e.symm) (Nat.lt_irrefl _)⟩)
   have HM1 := HM0
   have HM2 := HM0
   have HM3 := Lib.hid (show (some g ≠ Value.ownBlock (.slice q1 a4.funcs.length c1)) ∧ (some g ≠ Value.ownBlock (.slice q2 a4.ids.length c2)) from ⟨(hneR g _ _ k4).1.symm, (hneR g _ _ k4).2.symm⟩)
   have HF := Lib.hid (show ∀ b, w4.heap.size ≤ b → some b ≠ Value.ownBlock (.slice q1 a4.funcs.length c1) from fun b hb e => absurd (hown1.lt b e.symm).2 (by omega))
   have HO := Lib.hid hown1
   have HSTEP := Lib.hid hstep
   have hlt := hR4.lt
   have f9 := hR4.frozen 7
   have f10 := hR4.frozen 8
   have hHeld : (fun w' => w'.cell? ⟨rb, 4, none⟩ = some (.slice (some ⟨g, 0, none⟩) a4.rows.length c) ∧ w'.cell? ⟨rb, 7, none⟩ = some (.slice q1 a4.funcs.length c1) ∧ w'.cell? ⟨rb, 8, none⟩ = some (.slice q2 a4.ids.length c2) ∧ w'.cell? ⟨g, k * 7, none⟩ = some (.int .u64 (cid : Int))) (World.drew w4) := ⟨k4, k9, k10, kid⟩
   have hi1 : (0 : Int) ≤ (k : Int) := by omega
   have hi2 : (k : Int) < (a4.rows.length : Int) := by omega
   have hfr := o4.fin.rows
   have hsm : a4.funcs.length ≤ 10000000 := by have := o4.inv.funcs; omega
   have hsw : a4.ids.length ≤ 10000000 := by rw [o4.inv.ids]; omega
   clear hrb1 hrb2 hneR hstep hown1 T4 T7 T9 T11 T12 T14 T15 T16 T17 T18
   refine wp_region_any (by kernel_rfl) ?_
   refine wpAny_take (i := 1) (v := ?_) rfl (by kernel_rfl) (by kernel_rfl) (by kernel_rfl) (fun _ _ _ h => h) (Or.inl ⟨by rfl, ?_⟩) ?_
   rotate_left
   ·
    (intro w'; go_simp; try with_reducible rfl)
   try simp only [Act.put, sA, sB, sC]
   refine wpAny_of_T (S := fun w' => w'.cell? ⟨rb, 4, none⟩ = some (.slice (some ⟨g, 0, none⟩) a4.rows.length c) ∧ w'.cell? ⟨rb, 7, none⟩ = some (.slice q1 a4.funcs.length c1) ∧ w'.cell? ⟨rb, 8, none⟩ = some (.slice q2 a4.ids.length c2) ∧ w'.cell? ⟨g, k * 7, none⟩ = some (.int .u64 (cid : Int))) (n := 26) _ _ _ _ ?_
   refine tx [1] 0 ?_ rfl (by kernel_rfl) (fun _ _ _ h => h) ‹_› ?_ ?_ (tx [1] 2 ?_ rfl (by kernel_rfl) (fun _ _ _ h => h) ‹_› ?_ ?_ (tx [1] 3 ?_ rfl (by kernel_rfl) (fun _ _ _ h => h) ‹_› ?_ ?_ (tx [1] 4 ?_ rfl (by kernel_rfl) (fun _ _ _ h => h) ‹_› ?_ ?_ (tx [1] 5 ?_ rfl (by kernel_rfl) (fun _ _ _ h => h) ‹_› ?_ ?_ (tx [1] 6 ?_ rfl (by kernel_rfl) (fun _ _ _ h => h) ‹_› ?_ ?_ (tx [1] 7 ?_ rfl (by kernel_rfl) (fun _ _ _ h => h) ‹_› ?_ ?_ (tx [1] 8 ?_ rfl (by kernel_rfl) (fun _ _ _ h => h) ‹_› ?_ ?_ (tx [1] 9 ?_ rfl (by kernel_rfl) (fun _ _ _ h => h) ‹_› ?_ ?_ (tx [1] 12 ?_ rfl (by kernel_rfl) (fun _ _ _ h => h) ‹_› ?_ ?_ (tx [1] 13 ?_ rfl (by kernel_rfl) (fun _ _ _ h => h) ‹_› ?_ ?_ (tx [1] 14 ?_ rfl (by kernel_rfl) (fun _ _ _ h => h) ‹_› ?_ ?_ (tx [1] 15 ?_ rfl (by kernel_rfl) (fun _ _ _ h => h) ‹_› ?_ ?_ (tx [1] 16 ?_ rfl (by kernel_rfl) (fun _ _ _ h => h) ‹_› ?_ ?_ (tx [1] 17 ?_ rfl (by kernel_rfl) (fun _ _ _ h => h) ‹_› ?_ ?_ (tx [1] 18 ?_ rfl (by kernel_rfl) (fun _ _ _ h => h) ‹_› ?_ ?_ (tx [1] 19 ?_ rfl (by kernel_rfl) (fun _ _ _ h => h) ‹_› ?_ ?_ (tx [1] 20 ?_ rfl (by kernel_rfl) (fun _ _ _ h => h) ‹_› ?_ ?_ (tx [1] 21 ?_ rfl (by kernel_rfl) (fun _ _ _ h => h) ‹_› ?_ ?_ (tx [1] 22 ?_ rfl (by kernel_rfl) (fun _ _ _ h => h) ‹_› ?_ ?_ (tx [1] 23 ?_ rfl (by kernel_rfl) (fun _ _ _ h => h) ‹_› ?_ ?_ ?_))))))))))))))))))))
   all_goals try (first | rfl | ((try simp only [Act.put, sA, sB, sC]); intro w' hSw; (try dsimp only at hSw); go_simp; try with_reducible rfl))
   try simp only [Act.put, sA, sB, sC]
   refine wpAnyT_two (i := 10) (j := 24) rfl rfl (by kernel_rfl) (fun K hK => ?_) (fun K hK => ?_)
   ·
    go_simp
    generalize hWa : World.drew (World.alloc _ _) = Wa
    have hTa : ∀ j u, [strV (m ++ 32 :: x)][j]? = some u → Wa.cell? ((⟨w4.heap.size, 0, none⟩ : Addr).add j) = some u := by rw [← hWa]; exact cells_new _ _ _
    have hBa : Below w4.heap.size w4 Wa := by rw [← hWa]; exact ((Below.refl _ _).alloc (Nat.le_refl _) _).drew
    clear hWa
    refine hK.out _ _ (⟨below_cell hBa (Nat.le_refl _) hHeld.1, below_cell hBa (Nat.le_refl _) hHeld.2.1, below_cell hBa (Nat.le_refl _) hHeld.2.2.1, below_cell hBa (Nat.le_refl _) hHeld.2.2.2⟩) (fun hHeld => ?_)
    clear hK K
    try simp only [Act.put, sA, sB, sC]
    refine wpAnyT_two (i := 11) (j := 24) rfl rfl (by kernel_rfl) (fun K hK => ?_) (fun K hK => ?_)
    ·
     have hB0 : Below w4.heap.size w4 Wa := ((Below.refl w4.heap.size w4)).trans (hBa.mono (Nat.le_refl _))
     refine step_append_own rfl (.tmp 37) (.tmp 42) _ rfl (rb + 1) 9 k0 _ 1 16 Tryz.underlying58 hk hk0 hk1 hk2 rfl (by decide) _ _ _ rfl (own_below HO.out hB0 (Nat.le_refl _)) ⟨_, 0, none⟩ 1 1 [strV (m ++ 32 :: x)] rfl rfl ?_ (by intro u hu; simp only [List.mem_singleton] at hu; subst hu; rfl) ?_ ?_ ?_ ?_
     ·
      exact hTa
     ·
      unfold maxLen; omega
     ·
      omega
     ·
      have := hB0.size; omega
     intro v1 Wb ownb gb atb
     have hST := HSTEP.out Wa Wb v1 (m ++ 32 :: x) hB0 ownb gb atb
     refine hK.out _ _ (⟨gb.cell hHeld.1 HM0.out.1, gb.cell hHeld.2.1 HM1.out.1, gb.cell hHeld.2.2.1 HM2.out.1, gb.cell hHeld.2.2.2 HM3.out.1⟩) (fun hHeld => ?_)
     clear hK K
     try simp only [Act.put, sA, sB, sC]
     refine wpAnyT_one (i := 24) rfl (by kernel_rfl) (fun K hK => ?_)
     go_simp
     generalize hWc : World.alloc _ _ = Wc
     have hTc : ∀ j u, [idV cid][j]? = some u → Wc.cell? ((⟨Wb.heap.size, 0, none⟩ : Addr).add j) = some u := by rw [← hWc]; exact cells_new _ _ _
     have hBc : Below Wb.heap.size Wb Wc := by rw [← hWc]; exact (Below.refl _ _).alloc (Nat.le_refl _) _
     clear hWc
     refine hK.out _ _ (⟨below_cell hBc (Nat.le_refl _) hHeld.1, below_cell hBc (Nat.le_refl _) hHeld.2.1, below_cell hBc (Nat.le_refl _) hHeld.2.2.1, below_cell hBc (Nat.le_refl _) hHeld.2.2.2⟩) (fun hHeld => ?_)
     clear hK K
     try simp only [Act.put, sA, sB, sC]
     refine wpAnyT_one (i := 25) rfl (by kernel_rfl) (fun K hK => ?_)
     have hB2 := hBc
     refine step_append_own rfl (.tmp 47) (.tmp 56) _ rfl (rb + 1) 28 j0 _ 1 8 Tryz.underlying29 hj hj0 hj1 hj2 rfl (by decide) _ _ _ rfl (hST.1 _ hB2) ⟨_, 0, none⟩ 1 1 [idV cid] rfl rfl ?_ (by intro u hu; simp only [List.mem_singleton] at hu; subst hu; rfl) ?_ ?_ ?_ ?_
     ·
      exact hTc
     ·
      unfold maxLen; omega
     ·
      omega
     ·
      have := hB0.size; have := gb.size; have := hB2.size; omega
     intro v2 Wd ownd gd atd
     have hFIN := hST.2 Wc Wd v2 cid hB2 ownd gd atd
     refine hK.out _ _ (⟨gd.cell hHeld.1 HM0.out.2, gd.cell hHeld.2.1 HM1.out.2, gd.cell hHeld.2.2.1 HM2.out.2, gd.cell hHeld.2.2.2 HM3.out.2⟩) (fun hHeld => ?_)
     clear hK K
     try simp only [Act.put, sA, sB, sC]
     refine wpAnyT_tail (by kernel_rfl) ?_
     simp only [List.drop_succ_cons, List.drop_zero]
     have hrbk : Wd.heap[rb]? = w4.heap[rb]? := (gd.block rb (by have := hB0.size; have := gb.size; have := hB2.size; omega) HM0.out.2).trans ((hB2.block rb (by have := hB0.size; have := gb.size; omega)).trans ((gb.block rb (by have := hB0.size; omega) HM0.out.1).trans (hB0.block rb hlt)))
     have g9 := (World.frozen?_of_block (a := ⟨rb, 7, none⟩) hrbk).trans f9
     have g10 := (World.frozen?_of_block (a := ⟨rb, 8, none⟩) hrbk).trans f10
     have FIN := Lib.hid hFIN
     obtain ⟨d4, d9, d10, dg⟩ := hHeld
     obtain ⟨y1, z1, rfl⟩ := ownsRow_succ ownb
     obtain ⟨y2, z2, rfl⟩ := ownsRow_succ ownd
     clear hrbk hFIN hST gd gb hB2 hB0 ownd ownb atd atb f9 f10 HO HSTEP HF k4 k9 k10 kid hTa hTc
     go_wp2_with fail
     go_meet
     case rel => exact ⟨(by rw [← e5]; exact FIN.out.1), FIN.out.2⟩
    ·
     go_simp
     generalize hWc : World.alloc _ _ = Wc
     have hTc : ∀ j u, [idV cid][j]? = some u → Wc.cell? ((⟨Wa.heap.size, 0, none⟩ : Addr).add j) = some u := by rw [← hWc]; exact cells_new _ _ _
     have hBc : Below Wa.heap.size Wa Wc := by rw [← hWc]; exact (Below.refl _ _).alloc (Nat.le_refl _) _
     clear hWc
     refine hK.out _ _ (⟨below_cell hBc (Nat.le_refl _) hHeld.1, below_cell hBc (Nat.le_refl _) hHeld.2.1, below_cell hBc (Nat.le_refl _) hHeld.2.2.1, below_cell hBc (Nat.le_refl _) hHeld.2.2.2⟩) (fun hHeld => ?_)
     clear hK K
     try simp only [Act.put, sA, sB, sC]
     refine wpAnyT_one (i := 11) rfl (by kernel_rfl) (fun K hK => ?_)
     have hB0 : Below w4.heap.size w4 Wc := (((Below.refl w4.heap.size w4)).trans (hBa.mono (Nat.le_refl _))).trans (hBc.mono (Nat.le_trans (Nat.le_refl _) hBa.size))
     refine step_append_own rfl (.tmp 37) (.tmp 42) _ rfl (rb + 1) 9 k0 _ 1 16 Tryz.underlying58 hk hk0 hk1 hk2 rfl (by decide) _ _ _ rfl (own_below HO.out hB0 (Nat.le_refl _)) ⟨_, 0, none⟩ 1 1 [strV (m ++ 32 :: x)] rfl rfl ?_ (by intro u hu; simp only [List.mem_singleton] at hu; subst hu; rfl) ?_ ?_ ?_ ?_
     ·
      intro j u hj; exact below_cell hBc (Nat.le_refl _) (hTa j u hj)
     ·
      unfold maxLen; omega
     ·
      omega
     ·
      have := hB0.size; omega
     intro v1 Wb ownb gb atb
     have hST := HSTEP.out Wc Wb v1 (m ++ 32 :: x) hB0 ownb gb atb
     refine hK.out _ _ (⟨gb.cell hHeld.1 HM0.out.1, gb.cell hHeld.2.1 HM1.out.1, gb.cell hHeld.2.2.1 HM2.out.1, gb.cell hHeld.2.2.2 HM3.out.1⟩) (fun hHeld => ?_)
     clear hK K
     try simp only [Act.put, sA, sB, sC]
     refine wpAnyT_one (i := 25) rfl (by kernel_rfl) (fun K hK => ?_)
     have hB2 := Below.refl Wb.heap.size Wb
     refine step_append_own rfl (.tmp 47) (.tmp 56) _ rfl (rb + 1) 28 j0 _ 1 8 Tryz.underlying29 hj hj0 hj1 hj2 rfl (by decide) _ _ _ rfl (hST.1 _ hB2) ⟨_, 0, none⟩ 1 1 [idV cid] rfl rfl ?_ (by intro u hu; simp only [List.mem_singleton] at hu; subst hu; rfl) ?_ ?_ ?_ ?_
     ·
      intro j u hj; exact gb.cell (hTc j u hj) (HF.out _ (by have h0 := hBa.size; unfold Addr.add; split <;> exact h0))
     ·
      unfold maxLen; omega
     ·
      omega
     ·
      have := hB0.size; have := gb.size; have := hB2.size; omega
     intro v2 Wd ownd gd atd
     have hFIN := hST.2 Wb Wd v2 cid hB2 ownd gd atd
     refine hK.out _ _ (⟨gd.cell hHeld.1 HM0.out.2, gd.cell hHeld.2.1 HM1.out.2, gd.cell hHeld.2.2.1 HM2.out.2, gd.cell hHeld.2.2.2 HM3.out.2⟩) (fun hHeld => ?_)
     clear hK K
     try simp only [Act.put, sA, sB, sC]
     refine wpAnyT_tail (by kernel_rfl) ?_
     simp only [List.drop_succ_cons, List.drop_zero]
     have hrbk : Wd.heap[rb]? = w4.heap[rb]? := (gd.block rb (by have := hB0.size; have := gb.size; have := hB2.size; omega) HM0.out.2).trans ((hB2.block rb (by have := hB0.size; have := gb.size; omega)).trans ((gb.block rb (by have := hB0.size; omega) HM0.out.1).trans (hB0.block rb hlt)))
     have g9 := (World.frozen?_of_block (a := ⟨rb, 7, none⟩) hrbk).trans f9
     have g10 := (World.frozen?_of_block (a := ⟨rb, 8, none⟩) hrbk).trans f10
     have FIN := Lib.hid hFIN
     obtain ⟨d4, d9, d10, dg⟩ := hHeld
     obtain ⟨y1, z1, rfl⟩ := ownsRow_succ ownb
     obtain ⟨y2, z2, rfl⟩ := ownsRow_succ ownd
     clear hrbk hFIN hST gd gb hB2 hB0 ownd ownb atd atb f9 f10 HO HSTEP HF k4 k9 k10 kid hTa hTc
     go_wp2_with fail
     go_meet
     case rel => exact ⟨(by rw [← e5]; exact FIN.out.1), FIN.out.2⟩
   ·
    go_simp
    generalize hWc : World.drew (World.alloc _ _) = Wc
    have hTc : ∀ j u, [idV cid][j]? = some u → Wc.cell? ((⟨w4.heap.size, 0, none⟩ : Addr).add j) = some u := by rw [← hWc]; exact cells_new _ _ _
    have hBc : Below w4.heap.size w4 Wc := by rw [← hWc]; exact ((Below.refl _ _).alloc (Nat.le_refl _) _).drew
    clear hWc
    refine hK.out _ _ (⟨below_cell hBc (Nat.le_refl _) hHeld.1, below_cell hBc (Nat.le_refl _) hHeld.2.1, below_cell hBc (Nat.le_refl _) hHeld.2.2.1, below_cell hBc (Nat.le_refl _) hHeld.2.2.2⟩) (fun hHeld => ?_)
    clear hK K
    try simp only [Act.put, sA, sB, sC]
    refine wpAnyT_one (i := 10) rfl (by kernel_rfl) (fun K hK => ?_)
    go_simp
    generalize hWa : World.alloc _ _ = Wa
    have hTa : ∀ j u, [strV (m ++ 32 :: x)][j]? = some u → Wa.cell? ((⟨Wc.heap.size, 0, none⟩ : Addr).add j) = some u := by rw [← hWa]; exact cells_new _ _ _
    have hBa : Below Wc.heap.size Wc Wa := by rw [← hWa]; exact (Below.refl _ _).alloc (Nat.le_refl _) _
    clear hWa
    refine hK.out _ _ (⟨below_cell hBa (Nat.le_refl _) hHeld.1, below_cell hBa (Nat.le_refl _) hHeld.2.1, below_cell hBa (Nat.le_refl _) hHeld.2.2.1, below_cell hBa (Nat.le_refl _) hHeld.2.2.2⟩) (fun hHeld => ?_)
    clear hK K
    try simp only [Act.put, sA, sB, sC]
    refine wpAnyT_one (i := 11) rfl (by kernel_rfl) (fun K hK => ?_)
    have hB0 : Below w4.heap.size w4 Wa := (((Below.refl w4.heap.size w4)).trans (hBc.mono (Nat.le_refl _))).trans (hBa.mono (Nat.le_trans (Nat.le_refl _) hBc.size))
    refine step_append_own rfl (.tmp 37) (.tmp 42) _ rfl (rb + 1) 9 k0 _ 1 16 Tryz.underlying58 hk hk0 hk1 hk2 rfl (by decide) _ _ _ rfl (own_below HO.out hB0 (Nat.le_refl _)) ⟨_, 0, none⟩ 1 1 [strV (m ++ 32 :: x)] rfl rfl ?_ (by intro u hu; simp only [List.mem_singleton] at hu; subst hu; rfl) ?_ ?_ ?_ ?_
    ·
     exact hTa
    ·
     unfold maxLen; omega
    ·
     omega
    ·
     have := hB0.size; omega
    intro v1 Wb ownb gb atb
    have hST := HSTEP.out Wa Wb v1 (m ++ 32 :: x) hB0 ownb gb atb
    refine hK.out _ _ (⟨gb.cell hHeld.1 HM0.out.1, gb.cell hHeld.2.1 HM1.out.1, gb.cell hHeld.2.2.1 HM2.out.1, gb.cell hHeld.2.2.2 HM3.out.1⟩) (fun hHeld => ?_)
    clear hK K
    try simp only [Act.put, sA, sB, sC]
    refine wpAnyT_one (i := 25) rfl (by kernel_rfl) (fun K hK => ?_)
    have hB2 := Below.refl Wb.heap.size Wb
    refine step_append_own rfl (.tmp 47) (.tmp 56) _ rfl (rb + 1) 28 j0 _ 1 8 Tryz.underlying29 hj hj0 hj1 hj2 rfl (by decide) _ _ _ rfl (hST.1 _ hB2) ⟨_, 0, none⟩ 1 1 [idV cid] rfl rfl ?_ (by intro u hu; simp only [List.mem_singleton] at hu; subst hu; rfl) ?_ ?_ ?_ ?_
    ·
     intro j u hj; exact gb.cell (below_cell hBa (Nat.le_refl _) (hTc j u hj)) (HF.out _ (by have h0 := Nat.le_refl w4.heap.size; unfold Addr.add; split <;> exact h0))
    ·
     unfold maxLen; omega
    ·
     omega
    ·
     have := hB0.size; have := gb.size; have := hB2.size; omega
    intro v2 Wd ownd gd atd
    have hFIN := hST.2 Wb Wd v2 cid hB2 ownd gd atd
    refine hK.out _ _ (⟨gd.cell hHeld.1 HM0.out.2, gd.cell hHeld.2.1 HM1.out.2, gd.cell hHeld.2.2.1 HM2.out.2, gd.cell hHeld.2.2.2 HM3.out.2⟩) (fun hHeld => ?_)
    clear hK K
    try simp only [Act.put, sA, sB, sC]
    refine wpAnyT_tail (by kernel_rfl) ?_
    simp only [List.drop_succ_cons, List.drop_zero]
    have hrbk : Wd.heap[rb]? = w4.heap[rb]? := (gd.block rb (by have := hB0.size; have := gb.size; have := hB2.size; omega) HM0.out.2).trans ((hB2.block rb (by have := hB0.size; have := gb.size; omega)).trans ((gb.block rb (by have := hB0.size; omega) HM0.out.1).trans (hB0.block rb hlt)))
    have g9 := (World.frozen?_of_block (a := ⟨rb, 7, none⟩) hrbk).trans f9
    have g10 := (World.frozen?_of_block (a := ⟨rb, 8, none⟩) hrbk).trans f10
    have FIN := Lib.hid hFIN
    obtain ⟨d4, d9, d10, dg⟩ := hHeld
    obtain ⟨y1, z1, rfl⟩ := ownsRow_succ ownb
    obtain ⟨y2, z2, rfl⟩ := ownsRow_succ ownd
    clear hrbk hFIN hST gd gb hB2 hB0 ownd ownb atd atb f9 f10 HO HSTEP HF k4 k9 k10 kid hTa hTc
    go_wp2_with fail
    go_meet
    case rel => exact ⟨(by rw [← e5]; exact FIN.out.1), FIN.out.2⟩
  case rest =>
   obtain ⟨hR5, hb5⟩ := hcut
   have hR6 := hR5.openLists
   rw [e56] at hR6
   have hB5 : Below rb w wc := hBw.trans (hb4.trans hb5)
   have hB6 : Below rb w (((wc.setCell ⟨rb, 11, none⟩ (.slice none 0 0)).setCell ⟨rb, 12, none⟩ (.slice none 0 0)).setCell ⟨rb, 13, none⟩ (.int .i64 0)) :=
    ((hB5.setCell (p := ⟨rb, 11, none⟩) (Nat.le_refl _) _).setCell (p := ⟨rb, 12, none⟩) (Nat.le_refl _) _).setCell (p := ⟨rb, 13, none⟩) (Nat.le_refl _) _
   obtain ⟨_, _, v11, _⟩ := hR5.more_used
   obtain ⟨_, _, k12, _⟩ := hR5.forSeen
   obtain ⟨_, _, _, _, k13⟩ := hR5.cell
   have f11 := hR5.frozen 11
   have f12 := hR5.frozen 12
   have f13 := hR5.frozen 13
   clear hBw hb4 hb5 hR3 hR4 hR5 hB5 T4 e5 e6 e56 ecid
   go_upto_block 0 with (go_at_call 68; ((with_reducible refine ((T7 _ hR6).out).mono ?_); rintro e w7 ⟨rfl, hR7, hb7⟩))
   have hB7 := hB6.trans hb7.below
   clear hB6 hb7 hR6 v11 k12 k13 f11 f12 f13
   go_cut [] from 73 (fun wx => RdAt wx rb a8 ∧ Below rb w7 wx)
   case first =>
    clear T9 T11 T12 T14 T15 T16 T17 T18 T7
    go_wp2_with fail
    go_loopg [8] f (fun k2 p wr => ParamsR rb k a8 w7 k2 p wr)
    case atStart => exact ⟨true, a7, rfl, e8, hR7, o7, hk7, Below.refl _ _⟩
    case round =>
     obtain ⟨bo, t, rfl, hargs, hRt, hot, hlt, hBt⟩ := hrel
     obtain ⟨_, _, c3, _, _⟩ := hRt.cell
     clear e8 hR7
     cases gk with
     | zero => simp [Hg.Rd.params] at hargs
     | succ kf =>
       rw [Hg.Rd.params] at hargs
       by_cases hbad : t.bad = true
       ·
        rw [if_pos hbad] at hargs
        injection hargs with hargs
        subst hargs
        rw [hbad] at c3
        clear hbad
        go_wp2
        go_meet
        case rel => exact ⟨hRt, hBt⟩
       rw [if_neg hbad] at hargs
       have hbf : t.bad = false := by simpa using hbad
       rw [hbf] at c3
       clear hbad hbf
       by_cases hn : t.next [41] = true
       ·
        rw [if_pos hn] at hargs
        injection hargs with hargs
        have TE := fun W h => Lib.hid (eat9_yes (rb := rb) (s := t) (t := [41]) (w := W) h hot hn)
        rw [hargs] at TE
        clear hn
        go_wp2_with (go_at_call 72; refine ((TE _ hRt).out).mono ?_; rintro e w8 ⟨rfl, hR8, hb8⟩)
        go_meet
        case rel => exact ⟨hR8, hBt.trans hb8.below⟩
       rw [if_neg hn] at hargs
       have hnf : t.next [41] = false := by simpa using hn
       clear hn
       have TE := fun W h => Lib.hid (eat9_no (rb := rb) (s := t) (t := [41]) (w := W) h hot hnf)
       clear hnf
       dsimp only at hargs
       generalize er0 : (if bo = true then t else t.need [44]) = r0 at hargs
       have B0 : Hg.Rd.EStep t r0 := by rw [← er0]; split <;> first | exact Hg.Rd.EStep.refl _ | exact Hg.Rd.es_need _ _
       generalize qx1 : r0.text 1 = x1 at hargs
       generalize er1 : r0.name = r1 at hargs
       have B1 : Hg.Rd.EStep r0 r1 := by rw [← er1]; exact Hg.Rd.es_name _
       generalize qp : r0.rows.length = p at hargs
       have qp1 : r1.rows.length = p := by rw [← er1, name_len, qp]
       generalize er2 : r1.node k (Hg.Rd.ndNamed 4 x1) = r2 at hargs
       have B2 : Hg.Rd.EStep r1 r2 := by rw [← er2]; exact Hg.Rd.es_node _ _ _ rfl
       have ql2 : r2.rows.length = p + 1 := by rw [← er2, Hg.Rd.len_node, qp1]
       generalize qt2 : r2.typed.1 = ty2 at hargs
       generalize er3 : r2.typed.2 = r3 at hargs
       have B3 : Hg.Rd.EStep r2 r3 := by rw [← er3]; exact Hg.Rd.es_typed _
       generalize er4 : r3.setType p ty2 = r4 at hargs
       have B4 : Hg.Rd.EStep r3 r4 := by rw [← er4]; exact Hg.Rd.es_setType _ _ _
       generalize er5 : r4.declare x1 p = r5 at hargs
       have g5 : Hg.Rd.Grow r4 r5 := by rw [← er5]; exact Hg.Rd.grow_declare _ _ _
       have hl24 := (B3.trans B4).grow.len
       have hl01 := B0.grow.len
       have C5 : Hg.Rd.SStep t r5 := by rw [← er5]; exact Hg.Rd.ss_declare ((B0.trans B1).trans ((B2.trans B3).trans B4)) (by omega) _ _
       have ey := Hg.Rd.params_ss _ _ _ _ _ hargs
       have hf8 : Fin_ a8 := o8.fin
       have P0 : Okk r0 := hot.es B0 ((B1.grow.trans (B2.grow.trans (B3.grow.trans (B4.grow.trans g5)))).trans ey.grow) hf8
       have P1 : Okk r1 := P0.es B1 ((B2.grow.trans (B3.grow.trans (B4.grow.trans g5))).trans ey.grow) hf8
       have P2 : Okk r2 := P1.es B2 ((B3.grow.trans (B4.grow.trans g5)).trans ey.grow) hf8
       have P3 : Okk r3 := P2.es B3 ((B4.grow.trans g5).trans ey.grow) hf8
       have P4 : Okk r4 := P3.es B4 (g5.trans ey.grow) hf8
       have P5 : Okk r5 := hot.ss C5 ey.grow hf8
       have hp2 : p < r2.rows.length := by omega
       have hp3 : p < r3.rows.length := Nat.lt_of_lt_of_le hp2 B3.grow.len
       have hp4 : p < r4.rows.length := by omega
       have hkr1 : k < r1.rows.length := Nat.lt_of_lt_of_le hlt (B0.trans B1).grow.len
       have hkr5 : k < r5.rows.length := Nat.lt_of_lt_of_le hlt C5.grow.len
       have U1 := fun W h => Lib.hid (name9_ok (rb := rb) (s := r0) (w := W) h P0)
       rw [qx1, er1] at U1
       have U2 := fun W h => Lib.hid (node9_n (rb := rb) (s := r1) (under := k) p (Hg.Rd.ndNamed 4 x1) (w := W) h P1 rfl hkr1 qp1)
       rw [er2] at U2
       have U3 := fun W h => Lib.hid (typed9_ok (rb := rb) (s := r2) (w := W) h P2)
       rw [qt2, er3] at U3
       have U5 := fun W h => Lib.hid (declare9_ok (rb := rb) (s := r4) (t := x1) (k := p) (w := W) h P4 hp4)
       rw [er5] at U5
       have UN := fun W h => Lib.hid (need9_ok (rb := rb) (s := t) (t := [44]) (w := W) h hot)
       clear qx1 er1 er2 qt2 er3 er5 qp qp1 ql2
       cases bo with
       | true =>
         rw [if_pos rfl] at er0
         subst er0
         go_upto_region 15 with (first
          | (go_at_call 72; refine ((TE _ hRt).out).mono ?_; rintro e w9 ⟨rfl, hR9, hb9⟩)
          | (go_at_call 69; refine ((U1 _ hR9).out).mono ?_; rintro e w11 ⟨rfl, hR11, hb11⟩)
          | (go_at_call 67; refine ((U2 _ hR11).out).mono ?_; rintro e w12 ⟨rfl, hR12, hb12⟩))
         have hB12 : Below rb w7 w12 := hBt.trans (hb9.below.trans (hb11.below.trans hb12))
         obtain ⟨g, c, c4, hg1, hg2, _⟩ := hR12.forCell (k := p) (List.getElem?_eq_getElem hp2)
         have hHeld : (fun w' => w'.cell? ⟨rb, 4, none⟩ = some (.slice (some ⟨g, 0, none⟩) r2.rows.length c)) (World.drew w12) := c4
         refine wp_region_two (fun w' => w'.cell? ⟨rb, 4, none⟩ = some (.slice (some ⟨g, 0, none⟩) r2.rows.length c)) 7 (by kernel_rfl) ?_
         refine tk 0 ?_ rfl (by kernel_rfl) (fun _ _ _ h => h) ‹_› ?_ ?_ (tk 1 ?_ rfl (by kernel_rfl) (fun _ _ _ h => h) ‹_› ?_ ?_ (tk 2 ?_ rfl (by kernel_rfl) (fun _ _ _ h => h) ‹_› ?_ ?_ (tk 3 ?_ rfl (by kernel_rfl) (fun _ _ _ h => h) ‹_› ?_ ?_ (tk 4 ?_ rfl (by kernel_rfl) (fun _ _ _ h => h) ‹_› ?_ ?_ (tk 5 ?_ rfl (by kernel_rfl) (fun _ _ _ h => h) ‹_› ?_ ?_ ?_)))))
         all_goals try (first | rfl | ((try simp only [Act.put, sA, sB, sC]); intro w' hSw; (try dsimp only at hSw); go_simp; try with_reducible rfl))
         try simp only [Act.put, sA, sB, sC]
         refine wpAnyT_one (i := 6) rfl (by kernel_rfl) (fun K hK => ?_)
         go_simp
         go_at_call 108
         refine ((U3 _ (hR12.drewN 1)).out).mono ?_
         rintro e w50 ⟨rfl, hR50, hb50⟩
         refine hK.out _ _ (hb50.c4.trans hHeld) (fun hHeld => ?_)
         clear hK K
         try simp only [Act.put, sA, sB, sC]
         refine wpAnyT_tail (by kernel_rfl) ?_
         simp only [List.drop_succ_cons, List.drop_zero]
         clear hHeld
         obtain ⟨g', c', c4', _, hg3, _, hcs, hfz, hset⟩ := hR50.forCell (k := p) (List.getElem?_eq_getElem hp3)
         have hgg := hb50.c4.symm.trans c4'
         rw [show (World.drewN w12 1).cell? ⟨rb, 4, none⟩ = World.cell? w12 ⟨rb, 4, none⟩ from rfl, c4] at hgg
         injection hgg with hgg
         injection hgg with e1_ e2_ e3_
         injection e1_ with e1_
         injection e1_ with e1_
         subst e1_
         clear e3_
         obtain ⟨u5, hc5⟩ := hcs 4 (by omega)
         have hf5 := hfz (p * 7 + 4)
         have HS := Lib.hid hset
         have hi1 : (0 : Int) ≤ (p : Int) := by omega
         have hi2 : (p : Int) < (r2.rows.length : Int) := by omega
         clear hset hcs hfz c4'
         have hB50 := ((below_drewN (Below.refl rb _) 1).trans hb50.below)
         go_wp2_with (go_at_call 109; rw [show p * 7 + 1 + 3 = p * 7 + 4 by omega]; obtain ⟨z1, z2⟩ := HS.out 4 (.int .u8 (ty2 : Int)) (fun x => { x with node := { x.node with type := ty2 } }) (by omega) (fun _ _ => rfl) (fun _ => rfl); replace z1 : RdAt _ rb r4 := (by rw [← er4]; exact z1); ((with_reducible refine ((U5 _ z1).out).mono ?_); rintro e w13 ⟨rfl, hR13, hb13⟩))
         go_roundg kf
         case measure => omega
         case rel => exact ⟨false, r5, rfl, hargs, hR13, P5, hkr5, hB12.trans (hB50.trans (z2.trans hb13))⟩
       | false =>
         rw [if_neg (by simp)] at er0
         rw [er0] at UN
         go_upto_region 15 with (first
          | (go_at_call 72; refine ((TE _ hRt).out).mono ?_; rintro e w9 ⟨rfl, hR9, hb9⟩)
          | (go_at_call 68; refine ((UN _ hR9).out).mono ?_; rintro e w10 ⟨rfl, hR10, hb10⟩)
          | (go_at_call 69; refine ((U1 _ hR10).out).mono ?_; rintro e w11 ⟨rfl, hR11, hb11⟩)
          | (go_at_call 67; refine ((U2 _ hR11).out).mono ?_; rintro e w12 ⟨rfl, hR12, hb12⟩))
         have hB12 : Below rb w7 w12 := hBt.trans (hb9.below.trans (hb10.below.trans (hb11.below.trans hb12)))
         clear er0
         obtain ⟨g, c, c4, hg1, hg2, _⟩ := hR12.forCell (k := p) (List.getElem?_eq_getElem hp2)
         have hHeld : (fun w' => w'.cell? ⟨rb, 4, none⟩ = some (.slice (some ⟨g, 0, none⟩) r2.rows.length c)) (World.drew w12) := c4
         refine wp_region_two (fun w' => w'.cell? ⟨rb, 4, none⟩ = some (.slice (some ⟨g, 0, none⟩) r2.rows.length c)) 7 (by kernel_rfl) ?_
         refine tk 0 ?_ rfl (by kernel_rfl) (fun _ _ _ h => h) ‹_› ?_ ?_ (tk 1 ?_ rfl (by kernel_rfl) (fun _ _ _ h => h) ‹_› ?_ ?_ (tk 2 ?_ rfl (by kernel_rfl) (fun _ _ _ h => h) ‹_› ?_ ?_ (tk 3 ?_ rfl (by kernel_rfl) (fun _ _ _ h => h) ‹_› ?_ ?_ (tk 4 ?_ rfl (by kernel_rfl) (fun _ _ _ h => h) ‹_› ?_ ?_ (tk 5 ?_ rfl (by kernel_rfl) (fun _ _ _ h => h) ‹_› ?_ ?_ ?_)))))
         all_goals try (first | rfl | ((try simp only [Act.put, sA, sB, sC]); intro w' hSw; (try dsimp only at hSw); go_simp; try with_reducible rfl))
         try simp only [Act.put, sA, sB, sC]
         refine wpAnyT_one (i := 6) rfl (by kernel_rfl) (fun K hK => ?_)
         go_simp
         go_at_call 108
         refine ((U3 _ (hR12.drewN 1)).out).mono ?_
         rintro e w50 ⟨rfl, hR50, hb50⟩
         refine hK.out _ _ (hb50.c4.trans hHeld) (fun hHeld => ?_)
         clear hK K
         try simp only [Act.put, sA, sB, sC]
         refine wpAnyT_tail (by kernel_rfl) ?_
         simp only [List.drop_succ_cons, List.drop_zero]
         clear hHeld
         obtain ⟨g', c', c4', _, hg3, _, hcs, hfz, hset⟩ := hR50.forCell (k := p) (List.getElem?_eq_getElem hp3)
         have hgg := hb50.c4.symm.trans c4'
         rw [show (World.drewN w12 1).cell? ⟨rb, 4, none⟩ = World.cell? w12 ⟨rb, 4, none⟩ from rfl, c4] at hgg
         injection hgg with hgg
         injection hgg with e1_ e2_ e3_
         injection e1_ with e1_
         injection e1_ with e1_
         subst e1_
         clear e3_
         obtain ⟨u5, hc5⟩ := hcs 4 (by omega)
         have hf5 := hfz (p * 7 + 4)
         have HS := Lib.hid hset
         have hi1 : (0 : Int) ≤ (p : Int) := by omega
         have hi2 : (p : Int) < (r2.rows.length : Int) := by omega
         clear hset hcs hfz c4'
         have hB50 := ((below_drewN (Below.refl rb _) 1).trans hb50.below)
         go_wp2_with (go_at_call 109; rw [show p * 7 + 1 + 3 = p * 7 + 4 by omega]; obtain ⟨z1, z2⟩ := HS.out 4 (.int .u8 (ty2 : Int)) (fun x => { x with node := { x.node with type := ty2 } }) (by omega) (fun _ _ => rfl) (fun _ => rfl); replace z1 : RdAt _ rb r4 := (by rw [← er4]; exact z1); ((with_reducible refine ((U5 _ z1).out).mono ?_); rintro e w13 ⟨rfl, hR13, hb13⟩))
         go_roundg kf
         case measure => omega
         case rel => exact ⟨false, r5, rfl, hargs, hR13, P5, hkr5, hB12.trans (hB50.trans (z2.trans hb13))⟩
   case rest =>
    obtain ⟨hR8, hb8⟩ := hcut
    have hB8 := hB7.trans hb8
    clear hB7 hb8 hR7 T7 e8
    go_upto_region 17 with fail
    obtain ⟨g, c, c4, hg1, hg2, _⟩ := hR8.forCell (k := k) (List.getElem?_eq_getElem hk8)
    have hHeld : (fun w' => w'.cell? ⟨rb, 4, none⟩ = some (.slice (some ⟨g, 0, none⟩) a8.rows.length c)) (World.drew wc) := c4
    refine wp_region_two (fun w' => w'.cell? ⟨rb, 4, none⟩ = some (.slice (some ⟨g, 0, none⟩) a8.rows.length c)) 7 (by kernel_rfl) ?_
    refine tk 0 ?_ rfl (by kernel_rfl) (fun _ _ _ h => h) ‹_› ?_ ?_ (tk 1 ?_ rfl (by kernel_rfl) (fun _ _ _ h => h) ‹_› ?_ ?_ (tk 2 ?_ rfl (by kernel_rfl) (fun _ _ _ h => h) ‹_› ?_ ?_ (tk 3 ?_ rfl (by kernel_rfl) (fun _ _ _ h => h) ‹_› ?_ ?_ (tk 4 ?_ rfl (by kernel_rfl) (fun _ _ _ h => h) ‹_› ?_ ?_ (tk 5 ?_ rfl (by kernel_rfl) (fun _ _ _ h => h) ‹_› ?_ ?_ ?_)))))
    all_goals try (first | rfl | ((try simp only [Act.put, sA, sB, sC]); intro w' hSw; (try dsimp only at hSw); go_simp; try with_reducible rfl))
    try simp only [Act.put, sA, sB, sC]
    refine wpAnyT_one (i := 6) rfl (by kernel_rfl) (fun K hK => ?_)
    go_simp
    go_at_call 108
    refine ((T9 _ (hR8.drewN 1)).out).mono ?_
    rintro e w50 ⟨rfl, hR50, hb50⟩
    refine hK.out _ _ (hb50.c4.trans hHeld) (fun hHeld => ?_)
    clear hK K
    try simp only [Act.put, sA, sB, sC]
    refine wpAnyT_tail (by kernel_rfl) ?_
    simp only [List.drop_succ_cons, List.drop_zero]
    clear hHeld
    obtain ⟨g', c', c4', _, hg3, _, hcs, hfz, hset⟩ := hR50.forCell (k := k) (List.getElem?_eq_getElem hk9)
    have hgg := hb50.c4.symm.trans c4'
    rw [show (World.drewN wc 1).cell? ⟨rb, 4, none⟩ = World.cell? wc ⟨rb, 4, none⟩ from rfl, c4] at hgg
    injection hgg with hgg
    injection hgg with e1_ e2_ e3_
    injection e1_ with e1_
    injection e1_ with e1_
    subst e1_
    clear e3_
    obtain ⟨u5, hc5⟩ := hcs 4 (by omega)
    have hf5 := hfz (k * 7 + 4)
    have HS := Lib.hid hset
    have hi1 : (0 : Int) ≤ (k : Int) := by omega
    have hi2 : (k : Int) < (a8.rows.length : Int) := by omega
    clear hset hcs hfz c4'
    have hB50 := ((below_drewN (Below.refl rb _) 1).trans hb50.below)
    go_upto_block 2 with (first
     | (go_at_call 67; rw [show k * 7 + 1 + 3 = k * 7 + 4 by omega]; obtain ⟨z1, z2⟩ := HS.out 4 (.int .u8 (ty : Int)) (fun x => { x with node := { x.node with type := ty } }) (by omega) (fun _ _ => rfl) (fun _ => rfl); replace z1 : RdAt _ rb a10 := (by rw [← e10]; exact z1); refine ((T11 _ z1).out).mono ?_; rintro e w13 ⟨rfl, hR13, hb13⟩)
     | (go_at_call 68; ((with_reducible refine ((T12 _ hR13).out).mono ?_); rintro e w14 ⟨rfl, hR14, hb14⟩)))
    have hB14 := hB8.trans (hB50.trans (z2.trans (hb13.trans hb14.below)))
    clear hB8 hB50 z2 hb13 hb14 hR8 hR13 z1 T9 T11 T12 HS hR50 hb50
    go_cut [] from 124 (fun wx => RdAt wx rb a13 ∧ Below rb w14 wx)
    case first =>
     clear T14 T15 T16 T17 T18
     go_wp2_with fail
     go_loopg [133] f (fun k2 _ wr => BodyR rb b a13 w14 k2 wr)
     case atStart => exact ⟨a12, e13, hR14, o12, hd12, hv12, hb12, Below.refl _ _⟩
     case round =>
      obtain ⟨t, hargs, hRt, hot, hdt, hvt, hlt, hBt⟩ := hrel
      obtain ⟨_, _, c3, _, _⟩ := hRt.cell
      clear e13 hR14
      cases gk with
      | zero => simp [Hg.Rd.body] at hargs
      | succ kf =>
        rw [Hg.Rd.body] at hargs
        by_cases hbad : t.bad = true
        ·
         rw [if_pos (.inl hbad)] at hargs
         injection hargs with hargs
         subst hargs
         rw [hbad] at c3
         clear hbad
         go_wp2
         go_meet
         case rel => exact ⟨hRt, hBt⟩
        have hbf : t.bad = false := by simpa using hbad
        rw [hbf] at c3
        by_cases hn : t.next Hg.wReturn = true
        ·
         rw [if_pos (.inr hn)] at hargs
         injection hargs with hargs
         have TE := fun W h => Lib.hid (next9_ok (rb := rb) (s := t) (t := [114, 101, 116, 117, 114, 110]) (w := W) h hot hn)
         rw [hargs] at TE
         clear hn hbad hbf
         rw [hargs] at hRt
         go_wp2_with (go_at_call 107; refine ((TE _ hRt).out).mono ?_; rintro e w15 ⟨rfl, hR15, hb15⟩)
         go_meet
         case rel => exact ⟨hR15, hBt.trans hb15.below⟩
        rw [if_neg (by simp [hbad, hn])] at hargs
        have hnf : t.next [114, 101, 116, 117, 114, 110] = false := by simpa using (show ¬ t.next [114, 101, 116, 117, 114, 110] = true from hn)
        clear hn hbad hbf
        have TE := fun W h => Lib.hid (next9_ok (rb := rb) (s := t) (t := [114, 101, 116, 117, 114, 110]) (w := W) h hot hnf)
        clear hnf
        cases hx2 : Hg.Rd.stmt kf t b with
        | none => rw [hx2] at hargs; simp at hargs
        | some t1 =>
          rw [hx2] at hargs
          dsimp only at hargs
          have ex := (Hg.Rd.stmt_ss kf).1 _ _ _ hx2
          have ey := Hg.Rd.body_ss _ _ _ _ hargs
          have hft : Fin_ t1 := o13.fin.of ey.grow
          have hot1 : Okk t1 := hot.ss ex ey.grow o13.fin
          have TX := fun W h => Lib.hid ((stmt9_all kf).1 rb t b t1 W hx2 h hot hdt hvt hft hlt)
          go_wp2_with (first
           | (go_at_call 107; refine ((TE _ hRt).out).mono ?_; rintro e w15 ⟨rfl, hR15, hb15⟩)
           | (go_at_call 110; refine ((TX _ hR15).out).mono ?_; rintro e w16 ⟨rfl, hR16, hb16⟩))
          go_roundg kf
          case measure => omega
          case rel => exact ⟨t1, hargs, hR16, hot1, (by rw [ex.deep]; exact hdt), (by rw [ex.level, ex.deep]; exact hvt), Nat.lt_of_lt_of_le hlt ex.grow.len, hBt.trans (hb15.below.trans hb16)⟩
    case rest =>
     obtain ⟨hR13', hb13'⟩ := hcut
     have hB13 := hB14.trans hb13'
     clear hB14 hb13' hR14 e13
     go_wp2_with (first
      | (go_at_call 68; ((with_reducible refine ((T14 _ hR13').out).mono ?_); rintro e w17 ⟨rfl, hR17, hb17⟩))
      | (go_at_call 67; refine ((T15 _ hR17).out).mono ?_; rintro e w18 ⟨rfl, hR18, hb18⟩)
      | (go_at_call 111; refine ((T16 _ hR18).out).mono ?_; rintro e w19 ⟨rfl, hR19, hb19⟩)
      | (go_at_call 68; ((with_reducible refine ((T17 _ hR19).out).mono ?_); rintro e w20 ⟨rfl, hR20, hb20⟩))
      | (go_at_call 68; ((with_reducible refine ((T18 _ hR20).out).mono ?_); rintro e w21 ⟨rfl, hR21, hb21⟩)))
     go_end0
     exact ⟨rfl, hR21, hB13.trans (hb17.below.trans (hb18.trans (hb19.trans (hb20.below.trans hb21.below))))⟩
end Go.Proofs.YtihmbbkppkgcmaaGreatDoor
