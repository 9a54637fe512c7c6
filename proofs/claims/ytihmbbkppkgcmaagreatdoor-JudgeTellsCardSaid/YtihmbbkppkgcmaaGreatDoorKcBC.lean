/-
  Part of a proof: contracts of functions that the claim reaches, and plain lemmas.
-/
import Derived.Test.YtihmbbkppkgcmaaGreatDoorKcBB
import Derived.Test.YtihmbbkppkgcmaaGreatDoorKcAA
import Derived.Test.YtihmbbkppkgcmaaGreatDoorKcAP
import Derived.Deep.CutRange
import Derived.Test.YtihmbbkppkgcmaaGreatDoorKcAC
import Derived.Deep.QuietTactic
import Derived.BigQuiet
set_option linter.all false
namespace Go.Proofs.YtihmbbkppkgcmaaGreatDoor
open Go.RowKit
def ModsR (rb root f : Nat) (sE : Hg.Rd) (w0 : World) (k : Nat) (wr : World) : Prop :=
 ∃ (t : Hg.Rd), Hg.Rd.modsLoop f k t root = some sE ∧ RdAt wr rb t ∧ Okk t ∧ t.deep ≤ 90 ∧ Hg.Rd.MInv t ∧ root < t.rows.length ∧ Below rb w0 wr
def FuncsR (rb m f : Nat) (x : List UInt8) (sE : Hg.Rd) (w0 : World) (k : Nat) (wr : World) : Prop :=
 ∃ (t : Hg.Rd), Hg.Rd.funcsLoop f k t m x = some sE ∧ RdAt wr rb t ∧ Okk t ∧ t.deep ≤ 90 ∧ m < t.rows.length ∧ Below rb w0 wr
theorem func_level (f : Nat) (s : Hg.Rd) (u : Nat) (m : List UInt8) (s' : Hg.Rd) (h : Hg.Rd.func f s u m = some s') : s'.level = 0 := by
 unfold Hg.Rd.func at h
 dsimp only at h
 generalize (s.need Hg.wFunc).name = a at h
 generalize (if Hg.inL a.funcs (m ++ [32] ++ (s.need Hg.wFunc).text 1) = true then a.fault 10 else a) = b at h
 generalize hc : ({ (b.node u (Hg.Rd.ndNamed 3 ((s.need Hg.wFunc).text 1))) with funcs := (b.node u (Hg.Rd.ndNamed 3 ((s.need Hg.wFunc).text 1))).funcs ++ [m ++ [32] ++ (s.need Hg.wFunc).text 1], ids := (b.node u (Hg.Rd.ndNamed 3 ((s.need Hg.wFunc).text 1))).ids ++ [(b.node u (Hg.Rd.ndNamed 3 ((s.need Hg.wFunc).text 1))).idAt b.rows.length], used := [], seen := [], level := 0 } : Hg.Rd) = c at h
 have hl : c.level = 0 := by rw [← hc]
 cases hp : Hg.Rd.params f true (c.need [40]) b.rows.length with
 | none => rw [hp] at h; simp at h
 | some p =>
   rw [hp] at h
   dsimp only at h
   have A5 := ((Hg.Rd.es_need c [40]).s.trans (Hg.Rd.params_ss _ _ _ _ _ hp))
   have A6 := A5.trans ((((Hg.Rd.es_typed p).trans (Hg.Rd.es_setType _ b.rows.length p.typed.1)).trans (Hg.Rd.es_node _ b.rows.length (Hg.Rd.nd 5) rfl)).trans (Hg.Rd.es_need _ [123])).s
   cases hq : Hg.Rd.body f (((p.typed.2.setType b.rows.length p.typed.1).node b.rows.length (Hg.Rd.nd 5)).need [123]) (p.typed.2.setType b.rows.length p.typed.1).rows.length with
   | none => rw [hq] at h; simp at h
   | some v =>
     rw [hq] at h
     dsimp only at h
     have A7 := A6.trans (Hg.Rd.body_ss _ _ _ _ hq)
     cases hx : Hg.Rd.expr f ((v.need Hg.wReturn).node (p.typed.2.setType b.rows.length p.typed.1).rows.length (Hg.Rd.nd 10)) (v.need Hg.wReturn).rows.length with
     | none => rw [hx] at h; simp at h
     | some x =>
       rw [hx] at h
       injection h with h
       subst h
       have A8 := A7.trans (((((Hg.Rd.es_need v Hg.wReturn).trans (Hg.Rd.es_node _ _ (Hg.Rd.nd 10) rfl)).trans ((Hg.Rd.expr_es f).1 _ _ _ hx)).trans (Hg.Rd.es_need _ [59])).trans (Hg.Rd.es_need _ [125])).s
       rw [A8.level, hl]
set_option maxHeartbeats 4000000 in
set_option maxRecDepth 100000 in
theorem program9_any (f : Nat) (rb : Nat) (s s' : Hg.Rd) (w : World) (h : Hg.Rd.program f s = some s') (hR : RdAt w rb s) (hi0 : Hg.Rd.Inv s) (hr0 : s.rows = []) (hd0 : s.deep ≤ 90) (hv0 : s.level = 0) (hf : Fin_ s') :
 Calls Tryz.prog 43 #[.pointer (some ⟨rb, 0, none⟩)] w fun e w' => e = .returned (.tuple #[]) ∧ RdAt w' rb s' ∧ Below rb w w' := by
 obtain ⟨k0, hk, hk0, hk1, hk2⟩ := info_parts strInfo
 unfold Hg.Rd.program at h
 dsimp only at h
 have hrl : s.rows.length = 0 := by rw [hr0]; rfl
 rw [hrl] at h
 generalize e1 : s.node 0 (Hg.Rd.nd 1) = a1 at h
 have A1 : Hg.Rd.EStep s a1 := by rw [← e1]; exact Hg.Rd.es_node _ _ _ rfl
 have M1 : Hg.Rd.MInv a1 := by rw [← e1]; exact Hg.Rd.minv_node hi0 _ _ rfl
 have l1 : 0 < a1.rows.length := by rw [← e1, Hg.Rd.len_node]; omega
 cases e2 : Hg.Rd.modsLoop f f a1 0 with
 | none => rw [e2] at h; simp at h
 | some a2 =>
 rw [e2] at h
 injection h with e3
 obtain ⟨g2, d2, m2⟩ := Hg.Rd.modsLoop_ps _ _ _ _ _ e2
 have L3 : Hg.Rd.EStep a2 s' := by rw [← e3]; exact Hg.Rd.link_es _ _ _
 have hf2 : Fin_ a2 := hf.of L3.grow
 have o1 : Okk a1 := ⟨M1.inv, hf2.of g2, by rw [A1.deep]; omega, by rw [A1.level, hv0]; omega⟩
 have d1 : a1.deep ≤ 90 := by rw [A1.deep]; exact hd0
 have T0 := fun W h => Lib.hid (node9_any rb s 0 (Hg.Rd.nd 1) W h rfl (.inr hrl) (by omega) (fun k r hr => by rw [hr0] at hr; simp at hr))
 rw [e1, hrl] at T0
 clear e1 hrl hr0
 go_enter Tryz.func43, Tryz.ntmps43
 go_upto_block 0 with (go_at_call 67; refine ((T0 _ hR).out).mono ?_; rintro e w1 ⟨rfl, hR1, hb1⟩)
 go_cut [] from 13 (fun wx => RdAt wx rb a2 ∧ Below rb w1 wx)
 case first =>
  go_wp2_with fail
  go_loopg [29] f (fun k2 _ wr => ModsR rb 0 f a2 w1 k2 wr)
  case atStart => exact ⟨a1, e2, hR1, o1, d1, M1, l1, Below.refl _ _⟩
  case round =>
   obtain ⟨t, hargs, hRt, hot, hdt, hmt, hlt, hBt⟩ := hrel
   obtain ⟨c1, _, c3, _, _⟩ := hRt.cell
   obtain ⟨aL, cL, c0, _⟩ := hRt.toks
   clear e2 hR1
   cases gk with
   | zero => simp [Hg.Rd.modsLoop] at hargs
   | succ kf =>
     rw [Hg.Rd.modsLoop] at hargs
     by_cases hbad : t.bad = true
     ·
      rw [if_pos (.inl hbad)] at hargs
      injection hargs with hargs
      subst hargs
      rw [hbad] at c3
      clear hbad
      go_upto_region 1 with fail
      go_quiet (fail)
      go_wp2
      go_meet
      case rel => exact ⟨hRt.drewN _, below_drewN hBt _⟩
     have hbf : t.bad = false := by simpa using hbad
     rw [hbf] at c3
     by_cases hat : t.L.length ≤ t.at_
     ·
      rw [if_pos (.inr hat)] at hargs
      injection hargs with hargs
      have hq1 : decide ((t.at_ : Int) < (t.L.length : Int)) = false := by simp; omega
      have hq2 : decide (t.at_ < t.L.length) = false := by simp; omega
      subst hargs
      clear hbad hbf hat
      go_upto_region 1 with fail
      go_quiet (fail)
      go_wp2
      go_meet
      case rel => exact ⟨hRt.drewN _, below_drewN hBt _⟩
     rw [if_neg (by simp [hbf]; omega)] at hargs
     have hq1 : decide ((t.at_ : Int) < (t.L.length : Int)) = true := by simp; omega
     have hq2 : decide (t.at_ < t.L.length) = true := by simp; omega
     clear hbad hbf hat
     dsimp only at hargs
     generalize q1 : t.need Hg.wModule = b1 at hargs
     generalize qx : b1.text 1 = x at hargs
     generalize q2 : b1.name = b2 at hargs
     generalize q3 : (if Hg.inL b2.mods x = true then b2.fault 10 else b2) = b3 at hargs
     generalize qm : b3.rows.length = m at hargs
     generalize q4 : ({ b3 with mods := b3.mods ++ [x] } : Hg.Rd) = b4 at hargs
     generalize q5 : b4.node 0 (Hg.Rd.ndNamed 2 x) = b5 at hargs
     generalize q6 : b5.need [123] = b6 at hargs
     cases q7 : Hg.Rd.funcsLoop f f b6 m x with
     | none => rw [q7] at hargs; simp at hargs
     | some b7 =>
     rw [q7] at hargs
     dsimp only at hargs
     have B1 : Hg.Rd.EStep t b1 := by rw [← q1]; exact Hg.Rd.es_need _ _
     have B2 : Hg.Rd.EStep b1 b2 := by rw [← q2]; exact Hg.Rd.es_name _
     have B3 : Hg.Rd.EStep b2 b3 := by rw [← q3]; exact Hg.Rd.clash_fs _ _
     have B13 := (B1.trans B2).trans B3
     have g34 : Hg.Rd.Grow b3 b4 := by rw [← q4]; exact Hg.Rd.grow_same rfl (Nat.le_refl _) id rfl
     have r4 : b4.rows.length = m := by rw [← q4]; exact qm
     have i4 : Hg.Rd.Inv b4 := by rw [← q4]; exact Hg.Rd.minv_push (Hg.Rd.minv_es hmt B13) x
     have B5 : Hg.Rd.EStep b4 b5 := by rw [← q5]; exact Hg.Rd.es_node _ _ _ rfl
     have M5 : Hg.Rd.MInv b5 := by rw [← q5]; exact Hg.Rd.minv_node i4 _ _ rfl
     have l5 : b5.rows.length = m + 1 := by rw [← q5, Hg.Rd.len_node, r4]
     have B6 : Hg.Rd.EStep b5 b6 := by rw [← q6]; exact Hg.Rd.es_need _ _
     have M6 := Hg.Rd.minv_es M5 B6
     have F7 := Hg.Rd.funcsLoop_fs _ _ _ _ _ _ q7
     have M7 := Hg.Rd.minv_fs M6 F7
     obtain ⟨G7, _, _⟩ := Hg.Rd.modsLoop_ps _ _ _ _ _ hargs
     have G6 := F7.grow.trans G7
     have G5 := B6.grow.trans G6
     have G4 := B5.grow.trans G5
     have G3 := g34.trans G4
     have p1 : Okk b1 := hot.es B1 (B2.grow.trans (B3.grow.trans G3)) hf2
     have p2 : Okk b2 := p1.es B2 (B3.grow.trans G3) hf2
     have p3 : Okk b3 := p2.es B3 G3 hf2
     have p4 : Okk b4 := ⟨i4, hf2.of G4, by rw [← q4]; exact p3.deep, by rw [← q4]; exact p3.level⟩
     have p5 : Okk b5 := p4.es B5 G5 hf2
     have p6 : Okk b6 := p5.es B6 G6 hf2
     have hd3 : b3.deep ≤ 90 := by rw [B13.deep]; exact hdt
     have hd6 : b6.deep ≤ 90 := by rw [B6.deep, B5.deep, ← q4]; exact hd3
     have hl4 : 0 < b4.rows.length := Nat.lt_of_lt_of_le hlt (B13.grow.trans g34).len
     have hm6 : m < b6.rows.length := by have := B6.grow.len; omega
     have hl7 : 0 < b7.rows.length := Nat.lt_of_lt_of_le hl4 (B5.grow.trans (B6.grow.trans F7.grow)).len
     have hx : x.length ≤ 1000000 := by rw [← qx]; exact p1.text 1
     have U1 := fun W h => Lib.hid (need9_ok (rb := rb) (s := t) (t := [109, 111, 100, 117, 108, 101]) (w := W) h hot)
     rw [show t.need [109, 111, 100, 117, 108, 101] = b1 from q1] at U1
     have U2 := fun W h => Lib.hid (name9_ok (rb := rb) (s := b1) (w := W) h p1)
     rw [qx, q2] at U2
     have U5 := fun W h => Lib.hid (node9_n (rb := rb) (s := b4) (under := 0) m (Hg.Rd.ndNamed 2 x) (w := W) h p4 rfl hl4 r4)
     rw [q5] at U5
     have U6 := fun W h => Lib.hid (need9_ok (rb := rb) (s := b5) (t := [123]) (w := W) h p5)
     rw [q6] at U6
     clear q1 qx q2 q5 q6 r4 l5 qm
     go_upto_region 1 with fail
     go_quiet (fail)
     go_upto_if 39 with (first
      | (go_at_call 68; ((with_reducible refine ((U1 _ (hRt.drewN nq)).out).mono ?_); rintro e w3 ⟨rfl, hR3, hb3⟩))
      | (go_at_call 69; ((with_reducible refine ((U2 _ hR3).out).mono ?_); rintro e w4 ⟨rfl, hR4, hb4⟩; obtain ⟨aM, cM, k6, hoM, _⟩ := hR4.more_mods; have HOM := Lib.hid hoM; clear hoM))
      | (go_at_call 70; refine (has_any w4.heap.size _ b2.mods x _ (Sl.of_own HOM.out) (by have := p2.inv.mods; have := p2.fin.rows; omega)).mono ?_; rintro e w' ⟨rfl, rfl⟩))
     go_cut [] from 13 to 72 (fun wx => RdAt wx rb b3 ∧ Below rb w4 wx)
     case first =>
      by_cases hin : Hg.inL b2.mods x = true
      ·
       rw [hin]
       rw [if_pos hin] at q3
       go_wp2_with (go_at_call 71; refine (fault9_any rb b2 10 _ hR4).mono ?_; rintro e w5 ⟨rfl, hR5, hb5⟩)
       go_meet
       case rel => exact ⟨by rw [← q3]; exact hR5, hb5.below⟩
      ·
       have hin2 : Hg.inL b2.mods x = false := by simpa using hin
       rw [if_neg hin] at q3
       rw [hin2]
       clear hin hin2
       go_wp2
       go_meet
       case rel => exact ⟨by rw [← q3]; exact hR4, Below.refl _ _⟩
     case rest =>
      obtain ⟨hR5, hb5⟩ := hcut
      have hB5 : Below rb w1 wc := (below_drewN hBt nq).trans (hb3.below.trans (hb4.below.trans hb5))
      clear hb3 hb4 hb5 hR3 hR4 k6 HOM U1 U2 q3 hRt c0 c1 c3
      obtain ⟨aN, cN, n6, hown1, hrb1, _, hnew1⟩ := hR5.more_mods
      have HO1 := Lib.hid hown1
      have HN1 := Lib.hid hnew1
      have f6 := hR5.frozen 6
      have hlt1 := hR5.lt
      have hml : b3.mods.length ≤ 10000000 := by have := p3.inv.mods; have := p3.fin.rows; omega
      have hne1 := Lib.hid (show some rb ≠ Value.ownBlock (.slice aN b3.mods.length cN) from fun e => absurd (hrb1 rb e.symm) (Nat.lt_irrefl _))
      clear hnew1 hrb1 hown1
      go_wp2_with (at_builtin; refine wpList_append_own_at _ rfl (.tmp 46) (.tmp 48) _ rfl (rb + 1) 9 k0 _ 1 16 Tryz.underlying58 hk hk0 hk1 hk2 rfl (by decide) _ _ _ rfl (HO1.out.alloc _) ⟨_, 0, none⟩ 1 1 [strV x] rfl rfl (cells_new _ _ _) ?_ ?_ ?_ ?_ ?_)
      ·
       intro u hu; simp only [List.mem_singleton] at hu; subst hu; rfl
      ·
       unfold maxLen; omega
      ·
       omega
      ·
       simp; omega
      intro v1 W1 own1 g1 _ at1
      obtain ⟨hR6, hB6⟩ := HN1.out _ W1 v1 x ((Below.refl _ _).alloc (Nat.le_refl _) _) own1 g1 (by simpa using at1)
      rw [q4] at hR6
      have d6 := g1.cell (alloc_cell n6 _) hne1.out
      have e6 : W1.frozen? ⟨rb, 6, none⟩ = false := by
       rw [World.frozen?_of_block (a := ⟨rb, 6, none⟩) (g1.block rb (by simp; omega) hne1.out)]
       rw [World.frozen?_of_block (a := ⟨rb, 6, none⟩) (Below.heap_alloc wc _ rb hlt1)]
       exact f6
      obtain ⟨y0, z0, rfl⟩ := ownsRow_succ own1
      clear own1 g1 at1 HO1 HN1 hne1 n6 f6 hR5 q4
      go_wp2_with (first
       | (go_at_call 67; refine ((U5 _ hR6).out).mono ?_; rintro e w7 ⟨rfl, hR7, hb7⟩)
       | (go_at_call 68; ((with_reducible refine ((U6 _ hR7).out).mono ?_); rintro e w8 ⟨rfl, hR8, hb8⟩)))
      have hB8 : Below rb w1 w8 := hB5.trans (hB6.trans (hb7.trans hb8.below))
      clear hB5 hB6 hb7 hb8 hR6 hR7 d6 e6 U5 U6
      go_loopg [68] f (fun k2 _ wr => FuncsR rb m f x b7 w8 k2 wr)
      case atStart => exact ⟨b6, q7, hR8, p6, hd6, hm6, Below.refl _ _⟩
      case round =>
       obtain ⟨t2, hargs2, hRt2, hot2, hdt2, hlt2, hBt2⟩ := hrel
       obtain ⟨_, _, c3, _, _⟩ := hRt2.cell
       have hf7 : Fin_ b7 := hf2.of G7
       clear q7 hR8
       cases gk with
       | zero => simp [Hg.Rd.funcsLoop] at hargs2
       | succ kg =>
         rw [Hg.Rd.funcsLoop] at hargs2
         by_cases hbad : t2.bad = true
         ·
          rw [if_pos hbad] at hargs2
          injection hargs2 with hargs2
          subst hargs2
          rw [hbad] at c3
          clear hbad
          go_wp2
          go_roundg kf
          case measure => omega
          case rel => exact ⟨t2, hargs, hRt2, hot2, hdt2, M7, hl7, hB8.trans hBt2⟩
         rw [if_neg hbad] at hargs2
         have hbf : t2.bad = false := by simpa using hbad
         rw [hbf] at c3
         clear hbad hbf
         by_cases hn : t2.next [125] = true
         ·
          rw [if_pos hn] at hargs2
          injection hargs2 with hargs2
          have TE := fun W h => Lib.hid (eat9_yes (rb := rb) (s := t2) (t := [125]) (w := W) h hot2 hn)
          have o7 : Okk b7 := by rw [← hargs2]; exact hot2.es (Hg.Rd.es_step _) (by rw [hargs2]; exact Hg.Rd.Grow.refl _) hf7
          have d7 : b7.deep ≤ 90 := by rw [← hargs2]; exact hdt2
          rw [hargs2] at TE
          clear hn
          go_wp2_with (go_at_call 72; refine ((TE _ hRt2).out).mono ?_; rintro e w9 ⟨rfl, hR9, hb9⟩)
          go_roundg kf
          case measure => omega
          case rel => exact ⟨b7, hargs, hR9, o7, d7, M7, hl7, hB8.trans (hBt2.trans hb9.below)⟩
         rw [if_neg hn] at hargs2
         have hnf : t2.next [125] = false := by simpa using hn
         clear hn
         have TE := fun W h => Lib.hid (eat9_no (rb := rb) (s := t2) (t := [125]) (w := W) h hot2 hnf)
         clear hnf
         cases hx2 : Hg.Rd.func f t2 m x with
         | none => rw [hx2] at hargs2; simp at hargs2
         | some t3 =>
           rw [hx2] at hargs2
           dsimp only at hargs2
           have ex := Hg.Rd.func_fs _ _ _ _ _ hx2
           have ey := Hg.Rd.funcsLoop_fs _ _ _ _ _ _ hargs2
           have hft : Fin_ t3 := hf7.of ey.grow
           have hot3 : Okk t3 := hot2.fs ex (by rw [func_level _ _ _ _ _ hx2]; omega) ey.grow hf7
           have TX := fun W h => Lib.hid (function9_any f rb t2 m x t3 W hx2 h hot2 hdt2 hft hlt2 hx)
           go_wp2_with (first
            | (go_at_call 72; refine ((TE _ hRt2).out).mono ?_; rintro e w9 ⟨rfl, hR9, hb9⟩)
            | (go_at_call 73; refine ((TX _ hR9).out).mono ?_; rintro e w10 ⟨rfl, hR10, hb10⟩))
           go_roundg kg
           case measure => omega
           case rel => exact ⟨t3, hargs2, hR10, hot3, (by rw [ex.deep]; exact hdt2), Nat.lt_of_lt_of_le hlt2 ex.grow.len, hBt2.trans (hb9.below.trans hb10)⟩
 case rest =>
  obtain ⟨hR2, hb2⟩ := hcut
  have hi2 : Hg.Rd.Inv a2 := (m2 M1).inv
  have hr2 : a2.rows.length ≤ 10000000 := hf2.rows
  clear hR1 e2 A1 M1 o1 d1 l1 g2 d2 m2 T0 L3 hf hf2 hi0 hd0 hv0
  obtain ⟨_, _, _, _, aC, cC, _, _, ⟨_, _, k9, _⟩, _⟩ := hR2.book
  generalize hnC : a2.calls.length = nC at k9
  have hnle : nC ≤ 10000000 := by have := hi2.calls; omega
  have HNC := Lib.hid hnC
  clear hnC
  go_wp2_with fail
  go_loopw [78] (fun p wr => ∃ i : Nat, p = .int .i64 i ∧ LinkR rb aC cC nC s' w1 i wr) (fun p wr => nC - (intOf p).toNat)
  case atStart => exact ⟨0, rfl, a2, Nat.zero_le _, HNC.out, e3, hR2, hi2, hr2, k9, hb2⟩
  case round =>
   obtain ⟨i, rfl, t, hin, hlen, hl, hRt, hit, hrt, k9', hBt⟩ := hrel
   have HLEN := Lib.hid hlen
   have HL := Lib.hid hl
   clear e3 hR2 k9 hlen hl HNC hb2
   by_cases hlt : i < nC
   ·
    obtain ⟨a7, c7, a8, c8, a9, c9, a10, c10, ⟨k7, k8, k9b, k10⟩, s7, s8, s9, s10⟩ := hRt.book
    have hq9 := k9'.symm.trans k9b
    injection hq9 with hq9
    injection hq9 with q1 q2 q3
    subst q1; subst q3
    clear k9b q2
    have hic : i < t.calls.length := by rw [HLEN.out]; exact hlt
    have hiw : i < t.wants.length := by rw [hit.wants]; exact hic
    obtain ⟨bC, oC, rfl, _, kC⟩ := s9.idAt hic
    obtain ⟨bW, oW, rfl, _, kW⟩ := s10.strAt hiw
    obtain ⟨hid0, hid1⟩ := hit.callr t.calls[i] (List.getElem_mem hic)
    have hlk : Hg.Rd.link (t.calls[i] :: t.calls.drop (i + 1)) (t.wants[i] :: t.wants.drop (i + 1)) t = s' := by
     rw [← List.drop_eq_getElem_cons hic, ← List.drop_eq_getElem_cons hiw]; exact HL.out
    rw [Hg.Rd.link] at hlk
    try dsimp only at hlk
    generalize t.calls[i] = id at kC hid0 hid1 hlk
    generalize hwt : t.wants[i] = wt at kW hlk
    obtain ⟨j, rfl⟩ : ∃ j, id = j + 1 := ⟨id - 1, by omega⟩
    rw [Nat.add_sub_cancel] at hlk
    have HLK := Lib.hid hlk
    have HIDS := Lib.hid hit.ids
    have S7 := Lib.hid s7
    have S8 := Lib.hid s8
    have hfl : t.funcs.length ≤ 10000000 := by have := hit.funcs; omega
    have hwl : (i : Int) < (t.wants.length : Int) := by omega
    clear hlk HL s7 s8 s9 s10 hid0 hwt
    go_wp2_with fail
    go_loop [7, 88] (fun tv p => ∃ (m x : Nat), p = .int .i64 m ∧ m ≤ t.funcs.length ∧ tv = .int .u64 x ∧ Hg.Rd.lastFrom (t.funcs.drop m) (t.ids.drop m) wt x = Hg.Rd.lastOf t.funcs t.ids wt) (fun _ p => t.funcs.length - (intOf p).toNat)
    case atStart => exact ⟨0, 0, rfl, Nat.zero_le _, rfl, rfl⟩
    case round =>
     obtain ⟨m, x, rfl, hm, rfl, hlf⟩ := hrel
     have HLF := Lib.hid hlf
     clear hlf
     by_cases hmt : m < t.funcs.length
     ·
      have hmi : m < t.ids.length := by rw [HIDS.out]; exact hmt
      obtain ⟨b7, o7, rfl, _, kf⟩ := S7.out.strAt hmt
      obtain ⟨b8, o8, rfl, _, ki⟩ := S8.out.idAt hmi
      have hls : Hg.Rd.lastFrom (t.funcs.drop (m + 1)) (t.ids.drop (m + 1)) wt (if t.funcs[m] = wt then t.ids[m] else x) = Hg.Rd.lastOf t.funcs t.ids wt := by
       rw [← HLF.out, List.drop_eq_getElem_cons hmt, List.drop_eq_getElem_cons hmi, Hg.Rd.lastFrom]
      have HLS := Lib.hid hls
      clear hls
      generalize t.ids[m] = idm at ki HLS
      generalize t.funcs[m] = fm at kf HLS
      have hmil : (m : Int) < (t.ids.length : Int) := by omega
      by_cases he : fm = wt
      ·
       have hq : (fm == wt) = true := by simp [he]
       have HS2 := Lib.hid (HLS.out ▸ (by rw [if_pos he]) : Hg.Rd.lastFrom (t.funcs.drop (m + 1)) (t.ids.drop (m + 1)) wt idm = Hg.Rd.lastOf t.funcs t.ids wt)
       clear he HLS
       go_wp2
       go_round
       case rel => exact ⟨m + 1, idm, by go_num, by omega, rfl, HS2.out⟩
       case measure => simp [intOf]; omega
      ·
       have hq : (fm == wt) = false := by simp [he]
       have HS2 := Lib.hid (HLS.out ▸ (by rw [if_neg he]) : Hg.Rd.lastFrom (t.funcs.drop (m + 1)) (t.ids.drop (m + 1)) wt x = Hg.Rd.lastOf t.funcs t.ids wt)
       clear he HLS
       go_wp2
       go_round
       case rel => exact ⟨m + 1, x, by go_num, by omega, rfl, HS2.out⟩
       case measure => simp [intOf]; omega
     ·
      obtain rfl : m = t.funcs.length := by omega
      have hx : x = Hg.Rd.lastOf t.funcs t.ids wt := by
       rw [← HLF.out, List.drop_length]; rfl
      rw [← hx] at HLK
      clear HLF hx hmt
      have hjr : j < t.rows.length := by omega
      by_cases hx0 : x = 0
      ·
       subst hx0
       have hl1 := HLK.out
       rw [if_pos rfl] at hl1
       have HL1 := Lib.hid hl1
       clear HLK hl1
       have hF := Hg.Rd.fault_same t 9
       obtain ⟨f1, _, _, _, f5, f6, _⟩ := hF
       have hjr2 : j < (t.fault 9).rows.length := by rw [f1]; exact hjr
       have hit2 := (Hg.Rd.es_fault t 9).inv hit
       have FR := Lib.hid f1
       have FC := Lib.hid f5
       have FW := Lib.hid f6
       clear f1 f5 f6
       go_wp2_with (go_at_call 71; refine (fault9_keep rb t 9 _ hRt).mono ?_; rintro e w2 ⟨rfl, hR2, hb2, hk9⟩; obtain ⟨g, c, c4, hg1, hg2, _, hcs, hfz, hset⟩ := hR2.forCell (k := j) (List.getElem?_eq_getElem hjr2); obtain ⟨u5, hc5⟩ := hcs 5 (by omega); have hf5 := hfz (j * 7 + 5); have HS := Lib.hid hset; have HK9 := Lib.hid (hk9.trans k9'); have hjl : (j : Int) < ((t.fault 9).rows.length : Int) := (by omega); clear hcs hfz hset hk9)
       obtain ⟨r1, r2⟩ := HS.out 5 (.int .u64 ((0 : Nat) : Int)) (fun x => { x with node := { x.node with ref := 0 } }) (by omega) (fun _ _ => rfl) (fun _ => rfl)
       go_roundw
       case rel =>
        rw [show j * 7 + 1 + 4 = j * 7 + 5 by omega]
        refine ⟨i + 1, by go_num, (t.fault 9).setRef j 0, by omega, ?_, ?_, r1, (Hg.Rd.es_setRef _ _ _).inv hit2, ?_, ?_, hBt.trans (hb2.below.trans r2)⟩
        ·
         show (t.fault 9).calls.length = nC
         rw [FC.out]; exact HLEN.out
        ·
         show Hg.Rd.link ((t.fault 9).calls.drop (i + 1)) ((t.fault 9).wants.drop (i + 1)) ((t.fault 9).setRef j 0) = s'
         rw [FC.out, FW.out]; exact HL1.out
        ·
         show ((t.fault 9).rows.modify j _).length ≤ _
         rw [List.length_modify, FR.out]; exact hrt
        ·
         rw [World.cell?_setCell_other w2 ⟨g, j * 7 + 5, none⟩ ⟨rb, 9, none⟩ _ (by simp <;> omega)]; exact HK9.out
       case measure => simp [intOf]; omega
      ·
       have hl1 := HLK.out
       rw [if_neg hx0] at hl1
       have HL1 := Lib.hid hl1
       have hq : ((x : Int) == 0) = false := by simp; omega
       clear HLK hl1 hx0
       obtain ⟨g, c, c4, hg1, hg2, _, hcs, hfz, hset⟩ := hRt.forCell (k := j) (List.getElem?_eq_getElem hjr)
       obtain ⟨u5, hc5⟩ := hcs 5 (by omega)
       have hf5 := hfz (j * 7 + 5)
       have HS := Lib.hid hset
       have HK9 := Lib.hid k9'
       have hjl : (j : Int) < (t.rows.length : Int) := by omega
       clear hcs hfz hset
       go_wp2
       obtain ⟨r1, r2⟩ := HS.out 5 (.int .u64 (x : Int)) (fun y => { y with node := { y.node with ref := x } }) (by omega) (fun _ _ => rfl) (fun _ => rfl)
       go_roundw
       case rel =>
        rw [show j * 7 + 1 + 4 = j * 7 + 5 by omega]
        refine ⟨i + 1, by go_num, t.setRef j x, by omega, HLEN.out, HL1.out, r1, (Hg.Rd.es_setRef _ _ _).inv hit, ?_, ?_, hBt.trans r2⟩
        ·
         show (t.rows.modify j _).length ≤ _
         rw [List.length_modify]; exact hrt
        ·
         rw [World.cell?_setCell_other wr ⟨g, j * 7 + 5, none⟩ ⟨rb, 9, none⟩ _ (by simp <;> omega)]; exact HK9.out
       case measure => simp [intOf]; omega
   ·
    obtain rfl : i = nC := by omega
    have hst : t = s' := by
     have h1 := HL.out
     rw [← HLEN.out, List.drop_length] at h1
     cases hw : t.wants.drop t.calls.length <;> (rw [hw] at h1; exact h1)
    have HST := Lib.hid hst
    clear hst HL
    go_wp2
    go_end0
    rw [← HST.out]
    exact ⟨rfl, hRt, hb1.trans hBt⟩
end Go.Proofs.YtihmbbkppkgcmaaGreatDoor
namespace Go.Proofs.YtihmbbkppkgcmaaGreatDoor
open Go.RowKit
theorem RdAt.rowsOut {w : World} {rb : Nat} {s : Hg.Rd} (h : RdAt w rb s) : ∃ a c, w.cell? ⟨rb, 4, none⟩ = some (.slice a s.rows.length c) ∧ RowsAt w w.heap.size (.slice a s.rows.length c) s.rows := by
 obtain ⟨vL, vR, vM, vF, vI, vC, vW, vU, vS, ks, h1, h2, h3, h4⟩ := h
 have s4 : Sl w w.heap.size vR s.rows.length (rowsCells s.rows ks) := Sl.of_own (show w.ownsRow (rb + 1) 33 7 vR s.rows.length (rowsCells s.rows ks) from h4.1 ⟨vR, 33, 7, s.rows.length, rowsCells s.rows ks⟩ (by simp [rdOwn]))
 obtain ⟨a, c, rfl⟩ := s4.form
 refine ⟨a, c, cell_of_row w rb 4 _ _ (0, 0) h1, ks, h3, s4, fun k r kv hr hk => ?_⟩
 obtain ⟨l1, l2, hsp, _⟩ := kidsOwn_split s.rows ks k r kv h3 hr hk
 exact Sl.of_own (show w.ownsRow (rb + 1) 28 1 kv r.node.kids.length (r.node.kids.map idV) from h4.1 ⟨kv, 28, 1, r.node.kids.length, r.node.kids.map idV⟩ (by simp [rdOwn, hsp]))
theorem RowsAt.nil (w : World) (B : Nat) : RowsAt w B (.slice none 0 0) [] := ⟨[], rfl, Sl.nil _ _, fun k r kv h => by simp at h⟩
theorem begin9_any (v : Value) (l : List Hg.Tok) (w : World) (hx : Sl w w.heap.size v l.length (l.flatMap tokCells)) :
 Calls Tryz.prog 42 #[v] w fun e w' => e = .returned (.pointer (some ⟨w.heap.size, 0, none⟩)) ∧ RdAt w' w.heap.size (Hg.Rd.begin_ l) ∧ Below w.heap.size w w' := by
 obtain ⟨a, c, rfl⟩ := hx.form
 have HX := Lib.hid hx
 clear hx
 go_enter Tryz.func42, Tryz.ntmps42
 go_wp2
 go_ret
 refine ⟨rfl, ?_, (Below.refl _ _).alloc (Nat.le_refl _) _⟩
 refine ⟨.slice a l.length c, .slice none 0 0, .slice none 0 0, .slice none 0 0, .slice none 0 0, .slice none 0 0, .slice none 0 0, .slice none 0 0, .slice none 0 0, [], heap_alloc_new w _, HX.out.alloc (Nat.le_refl _) _, rfl, ?_, ?_⟩
 ·
  intro o ho
  simp only [rdOwn, Hg.Rd.begin_, kidsOwn, rowsCells, List.append_nil, List.mem_cons, List.not_mem_nil, or_false, List.map_nil, List.flatMap_nil, List.length_nil] at ho
  rcases ho with rfl | rfl | rfl | rfl | rfl | rfl | rfl | rfl <;> exact World.ownsRow_nil _ _ _ _
 ·
  simp [rdOwn, Hg.Rd.begin_, kidsOwn, rowsCells, Value.ownBlock]
def ParseRes (r : List Hg.Row × Nat) (e : Ending) (w' : World) : Prop := ∃ v, e = .returned (.tuple #[v, .int .i64 (r.2 : Int)]) ∧ RowsAt w' w'.heap.size v r.1
theorem ParseRes.mk {r : List Hg.Row × Nat} {e : Ending} {w' : World} {l : List Hg.Row} {n : Nat} {v : Value} (h : r = (l, n)) (he : e = .returned (.tuple #[v, .int .i64 (n : Int)])) (hx : RowsAt w' w'.heap.size v l) : ParseRes r e w' := by subst h; exact ⟨v, he, hx⟩
theorem inv_begin (l : List Hg.Tok) : Hg.Rd.Inv (Hg.Rd.begin_ l) :=
 ⟨by simp [Hg.Rd.begin_], by simp [Hg.Rd.begin_], by simp [Hg.Rd.begin_], by simp [Hg.Rd.begin_], by simp [Hg.Rd.begin_], by simp [Hg.Rd.begin_], by simp [Hg.Rd.begin_], fun k r h => by simp [Hg.Rd.begin_] at h, fun k r h => by simp [Hg.Rd.begin_] at h, fun c h => by simp [Hg.Rd.begin_] at h⟩
set_option maxHeartbeats 2000000 in
theorem parse9_any (s : List UInt8) (hs : s.length ≤ 1000000) (w : World) :
 Calls Tryz.prog 21 #[.string ⟨s.toArray⟩] w fun e w' => ParseRes (Hg.parseOf s) e w' ∧ Below w.heap.size w w' := by
 cases ha : Hg.r8all s with
 | none =>
   have hp := Lib.hid (Hg.parse_none ha)
   have HA := Lib.hid ha
   clear ha
   go_enter Tryz.func21, Tryz.ntmps21
   go_wp2_with (go_at_call 41; refine (all8_any s hs _).mono ?_; rintro e w1 ⟨hr, hb⟩; rw [HA.out] at hr; obtain rfl := hr)
   go_ret2
   exact ⟨ParseRes.mk hp.out rfl (RowsAt.nil _ _), hb⟩
 | some l =>
   obtain ⟨r, hpr, hrl, hra, _, hpe⟩ := Hg.parse_some ha
   obtain ⟨hl1, hl2⟩ := Hg.r8all_len ha
   have hfin : Fin_ r := by
    have hL : r.L = l := by
     have hpr2 := hpr
     unfold Hg.Rd.program at hpr2
     dsimp only at hpr2
     cases e : Hg.Rd.modsLoop (3 * s.length + 10) (3 * s.length + 10) ((Hg.Rd.begin_ l).node 0 (Hg.Rd.nd 1)) (Hg.Rd.begin_ l).rows.length with
     | none => rw [e] at hpr2; simp at hpr2
     | some a =>
       rw [e] at hpr2
       injection hpr2 with hpr2
       rw [← hpr2, (Hg.Rd.link_es _ _ _).grow.L, (Hg.Rd.modsLoop_ps _ _ _ _ _ e).1.L]
       rfl
    exact ⟨by omega, by omega, by rw [hL]; omega, by rw [hL]; intro t ht; have := hl2 t ht; omega⟩
   have HA := Lib.hid ha
   have HP := Lib.hid hpr
   have HE := Lib.hid hpe
   have HF := Lib.hid hfin
   clear ha hpr hpe hfin hl2
   go_enter Tryz.func21, Tryz.ntmps21
   cases hbad : r.bad
   ·
    by_cases h2 : 20000 < r.rows.length
    ·
     have hz := HE.out
     rw [if_neg (by simp [hbad]), if_pos h2] at hz
     have HZ := Lib.hid hz
     have q1 : decide ((20000 : Int) < (r.rows.length : Int)) = true := by simp; omega
     clear hz HE h2
     go_wp2_with (first
      | (go_at_call 41; refine (all8_any s hs _).mono ?_; rintro e w1 ⟨hr, hb⟩; rw [HA.out] at hr; obtain ⟨v, rfl, hv⟩ := hr)
      | (go_at_call 42; refine (begin9_any v l _ hv).mono ?_; rintro e w2 ⟨rfl, hR2, hb2⟩)
      | (go_at_call 43; refine (program9_any _ _ _ r _ HP.out hR2 (inv_begin l) rfl (Nat.zero_le _) rfl HF.out).mono ?_; rintro e w3 ⟨rfl, hR3, hb3⟩; obtain ⟨_, _, c3, c5, _⟩ := hR3.cell; obtain ⟨ar, cr, c4, hrows⟩ := hR3.rowsOut; have HR := Lib.hid hrows; clear hrows))
     go_ret2
     exact ⟨ParseRes.mk HZ.out rfl (RowsAt.nil _ _), hb.trans ((hb2.trans hb3).mono hb.size)⟩
    ·
     by_cases h3 : r.names = 0
     ·
      have hz := HE.out
      rw [if_neg (by simp [hbad]), if_neg h2, if_neg (by simp [h3])] at hz
      have HZ := Lib.hid hz
      have q1 : decide ((20000 : Int) < (r.rows.length : Int)) = false := by simp; omega
      have q2 : ((r.names : Int) != 0) = false := by simp [h3]
      clear hz HE h2 h3
      go_wp2_with (first
       | (go_at_call 41; refine (all8_any s hs _).mono ?_; rintro e w1 ⟨hr, hb⟩; rw [HA.out] at hr; obtain ⟨v, rfl, hv⟩ := hr)
       | (go_at_call 42; refine (begin9_any v l _ hv).mono ?_; rintro e w2 ⟨rfl, hR2, hb2⟩)
       | (go_at_call 43; refine (program9_any _ _ _ r _ HP.out hR2 (inv_begin l) rfl (Nat.zero_le _) rfl HF.out).mono ?_; rintro e w3 ⟨rfl, hR3, hb3⟩; obtain ⟨_, _, c3, c5, _⟩ := hR3.cell; obtain ⟨ar, cr, c4, hrows⟩ := hR3.rowsOut; have HR := Lib.hid hrows; clear hrows))
      go_ret2
      exact ⟨ParseRes.mk HZ.out rfl HR.out, hb.trans ((hb2.trans hb3).mono hb.size)⟩
     ·
      have hz := HE.out
      rw [if_neg (by simp [hbad]), if_neg h2, if_pos h3] at hz
      have HZ := Lib.hid hz
      have q1 : decide ((20000 : Int) < (r.rows.length : Int)) = false := by simp; omega
      have q2 : ((r.names : Int) != 0) = true := by simp; omega
      clear hz HE h2 h3
      go_wp2_with (first
       | (go_at_call 41; refine (all8_any s hs _).mono ?_; rintro e w1 ⟨hr, hb⟩; rw [HA.out] at hr; obtain ⟨v, rfl, hv⟩ := hr)
       | (go_at_call 42; refine (begin9_any v l _ hv).mono ?_; rintro e w2 ⟨rfl, hR2, hb2⟩)
       | (go_at_call 43; refine (program9_any _ _ _ r _ HP.out hR2 (inv_begin l) rfl (Nat.zero_le _) rfl HF.out).mono ?_; rintro e w3 ⟨rfl, hR3, hb3⟩; obtain ⟨_, _, c3, c5, _⟩ := hR3.cell; obtain ⟨ar, cr, c4, hrows⟩ := hR3.rowsOut; have HR := Lib.hid hrows; clear hrows))
      go_quiet (fail)
      go_wp2
      go_ret2
      exact ⟨ParseRes.mk HZ.out rfl (RowsAt.nil _ _), below_drewN (hb.trans ((hb2.trans hb3).mono hb.size)) _⟩
   ·
    have hz := HE.out
    rw [if_pos hbad] at hz
    have HZ := Lib.hid hz
    clear hz HE
    go_wp2_with (first
     | (go_at_call 41; refine (all8_any s hs _).mono ?_; rintro e w1 ⟨hr, hb⟩; rw [HA.out] at hr; obtain ⟨v, rfl, hv⟩ := hr)
     | (go_at_call 42; refine (begin9_any v l _ hv).mono ?_; rintro e w2 ⟨rfl, hR2, hb2⟩)
     | (go_at_call 43; refine (program9_any _ _ _ r _ HP.out hR2 (inv_begin l) rfl (Nat.zero_le _) rfl HF.out).mono ?_; rintro e w3 ⟨rfl, hR3, hb3⟩; obtain ⟨_, _, c3, c5, _⟩ := hR3.cell; obtain ⟨ar, cr, c4, hrows⟩ := hR3.rowsOut; have HR := Lib.hid hrows; clear hrows))
    go_ret2
    exact ⟨ParseRes.mk HZ.out rfl (RowsAt.nil _ _), hb.trans ((hb2.trans hb3).mono hb.size)⟩
end Go.Proofs.YtihmbbkppkgcmaaGreatDoor
