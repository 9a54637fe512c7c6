/-
  Part of a proof: contracts of functions that the claim reaches, and plain lemmas.
-/
import Derived.Test.YtihmbbkppkgcmaaGreatDoorKcAR
import Derived.Test.YtihmbbkppkgcmaaGreatDoorKcAJ
import Derived.Test.YtihmbbkppkgcmaaGreatDoorKcAA
set_option linter.all false
namespace Go.Proofs.YtihmbbkppkgcmaaGreatDoor
open Go.RowKit
structure Fin_ (s : Hg.Rd) : Prop where
 rows : s.rows.length ≤ 10000000
 at_ : s.at_ ≤ 10000000
 L : s.L.length ≤ 10000000
 txt : ∀ t ∈ s.L, t.text.length ≤ 1000000
theorem Fin_.of {s s' : Hg.Rd} (h : Fin_ s') (g : Hg.Rd.Grow s s') : Fin_ s :=
 ⟨Nat.le_trans g.len h.rows, Nat.le_trans g.at_ h.at_, by rw [← g.L]; exact h.L, by rw [← g.L]; exact h.txt⟩
structure Okk (s : Hg.Rd) : Prop where
 inv : Hg.Rd.Inv s
 fin : Fin_ s
 deep : s.deep ≤ 1000
 level : s.level ≤ 1000
theorem Okk.lim {s : Hg.Rd} (h : Okk s) : Lim s := ⟨by have := h.fin.at_; omega, by have := h.fin.L; omega, by have := h.deep; omega, by have := h.level; omega⟩
theorem Okk.es {s a s' : Hg.Rd} (h : Okk s) (e : Hg.Rd.EStep s a) (g : Hg.Rd.Grow a s') (hf : Fin_ s') : Okk a :=
 ⟨e.inv h.inv, hf.of g, by rw [e.deep]; exact h.deep, by rw [e.level]; exact h.level⟩
theorem Okk.text {s : Hg.Rd} (h : Okk s) (k : Nat) : (s.text k).length ≤ 1000000 := by
 unfold Hg.Rd.text
 split
 ·
  simp
 ·
  split
  ·
   rename_i t ht
   split
   ·
    exact h.fin.txt t (List.mem_of_getElem? ht)
   ·
    simp
  ·
   simp
theorem eat9_no {rb : Nat} {s : Hg.Rd} {t : List UInt8} {w : World} (hR : RdAt w rb s) (hl : Okk s) (hn : s.next t = false) :
 Calls Tryz.prog 72 #[.pointer (some ⟨rb, 0, none⟩), strV t] w fun e w' => e = .returned (.bool false) ∧ RdAt w' rb s ∧ Lite rb w w' := by
 have h := eat9_any rb s t w hR hl.lim
 rw [hn, show s.eat t = s by simp [Hg.Rd.eat, hn]] at h
 exact h
theorem eat9_yes {rb : Nat} {s : Hg.Rd} {t : List UInt8} {w : World} (hR : RdAt w rb s) (hl : Okk s) (hn : s.next t = true) :
 Calls Tryz.prog 72 #[.pointer (some ⟨rb, 0, none⟩), strV t] w fun e w' => e = .returned (.bool true) ∧ RdAt w' rb s.step ∧ Lite rb w w' := by
 have h := eat9_any rb s t w hR hl.lim
 rw [hn, show s.eat t = s.step by simp [Hg.Rd.eat, hn]] at h
 exact h
theorem next9_ok {rb : Nat} {s : Hg.Rd} {t : List UInt8} {w : World} {b : Bool} (hR : RdAt w rb s) (hl : Okk s) (hn : s.next t = b) :
 Calls Tryz.prog 107 #[.pointer (some ⟨rb, 0, none⟩), strV t] w fun e w' => e = .returned (.bool b) ∧ RdAt w' rb s ∧ Lite rb w w' := by
 have hL := hl.lim
 refine (next9_any rb s t w hR (by have := hL.at_; omega) (by have := hL.L; omega)).mono ?_
 rintro e w' ⟨rfl, n, rfl⟩
 rw [hn]
 exact ⟨rfl, hR.drewN n, Lite.drewN _ _ _⟩
theorem text9_ok {rb : Nat} {s : Hg.Rd} {k : Nat} {w : World} {x : List UInt8} (hR : RdAt w rb s) (hl : Okk s) (hn : s.text k = x) :
 Calls Tryz.prog 106 #[.pointer (some ⟨rb, 0, none⟩), .int .u8 (k : Int)] w fun e w' => e = .returned (strV x) ∧ RdAt w' rb s ∧ Lite rb w w' := by
 have hL := hl.lim
 refine (text9_any rb s k w hR (by have := hL.at_; omega) (by have := hL.L; omega)).mono ?_
 rintro e w' ⟨rfl, n, rfl⟩
 rw [hn]
 exact ⟨rfl, hR.drewN n, Lite.drewN _ _ _⟩
theorem text9_z {rb : Nat} {s : Hg.Rd} (z : Int) (k : Nat) {w : World} {x : List UInt8} (hR : RdAt w rb s) (hl : Okk s) (hn : s.text k = x) (hz : z = (k : Int)) :
 Calls Tryz.prog 106 #[.pointer (some ⟨rb, 0, none⟩), .int .u8 z] w fun e w' => e = .returned (strV x) ∧ RdAt w' rb s ∧ Lite rb w w' := by subst hz; exact text9_ok hR hl hn
theorem need9_ok {rb : Nat} {s : Hg.Rd} {t : List UInt8} {w : World} (hR : RdAt w rb s) (hl : Okk s) :
 Calls Tryz.prog 68 #[.pointer (some ⟨rb, 0, none⟩), strV t] w fun e w' => e = .returned (.tuple #[]) ∧ RdAt w' rb (s.need t) ∧ Lite rb w w' := need9_any rb s t w hR hl.lim
theorem name9_ok {rb : Nat} {s : Hg.Rd} {w : World} (hR : RdAt w rb s) (hl : Okk s) :
 Calls Tryz.prog 69 #[.pointer (some ⟨rb, 0, none⟩)] w fun e w' => e = .returned (strV (s.text 1)) ∧ RdAt w' rb s.name ∧ Lite rb w w' := name9_any rb s w hR hl.lim
theorem enter9_ok {rb : Nat} {s : Hg.Rd} {w : World} {b : Bool} (hR : RdAt w rb s) (hl : Okk s) (hb : (!s.enter.bad) = b) :
 Calls Tryz.prog 139 #[.pointer (some ⟨rb, 0, none⟩)] w fun e w' => e = .returned (.bool b) ∧ RdAt w' rb s.enter ∧ Below rb w w' := by
 rw [← hb]; exact enter9_any rb s w hR hl.lim
theorem find9_ok {rb : Nat} {s : Hg.Rd} {t : List UInt8} {w : World} (hR : RdAt w rb s) (hl : Okk s) :
 Calls Tryz.prog 138 #[.pointer (some ⟨rb, 0, none⟩), strV t] w fun e w' => e = .returned (.int .u64 ((s.find t).1 : Int)) ∧ RdAt w' rb (s.find t).2 ∧ Lite rb w w' :=
 find9_any rb s t w hR (by have := hl.inv.seen; have := hl.inv.used; have := hl.fin.rows; omega)
theorem node9_ok {rb : Nat} {s : Hg.Rd} {under : Nat} (nd : Hg.Node) {w : World} (hR : RdAt w rb s) (hl : Okk s) (hk : nd.kids = []) (hu : under < s.rows.length) :
 Calls Tryz.prog 67 #[.pointer (some ⟨rb, 0, none⟩), .int .i64 (under : Int), nodeV nd (.slice none 0 0)] w fun e w' =>
  e = .returned (.int .i64 (s.rows.length : Int)) ∧ RdAt w' rb (s.node under nd) ∧ Below rb w w' :=
 node9_any rb s under nd w hR hk (.inl hu) (by have := hl.fin.rows; omega) (fun k r hr => by have := hl.inv.kids k r hr; have := hl.fin.rows; omega)
theorem RdAt.leave9 {w : World} {rb : Nat} {s : Hg.Rd} (h : RdAt w rb s) {x : Int} (hx : x = (s.deep : Int) - 1) (hp : 1 ≤ s.deep) : RdAt (w.setCell ⟨rb, 2, none⟩ (.int .i64 x)) rb s.leave := by
 have e : x = ((s.deep - 1 : Nat) : Int) := by omega
 rw [e]; exact h.setDeep _
theorem node9_n {rb : Nat} {s : Hg.Rd} {under : Nat} (n : Nat) (nd : Hg.Node) {w : World} (hR : RdAt w rb s) (hl : Okk s) (hk : nd.kids = []) (hu : under < s.rows.length) (hn : s.rows.length = n) :
 Calls Tryz.prog 67 #[.pointer (some ⟨rb, 0, none⟩), .int .i64 (under : Int), nodeV nd (.slice none 0 0)] w fun e w' =>
  e = .returned (.int .i64 (n : Int)) ∧ RdAt w' rb (s.node under nd) ∧ Below rb w w' := by subst hn; exact node9_ok nd hR hl hk hu
theorem enter_deep (s : Hg.Rd) : s.enter.deep = s.deep + 1 := by unfold Hg.Rd.enter; dsimp only; split <;> rfl
theorem enter_rows (s : Hg.Rd) : s.enter.rows = s.rows := by unfold Hg.Rd.enter; dsimp only; split <;> rfl
theorem enter_deep_le {s : Hg.Rd} (h : s.enter.bad = false) : s.enter.deep ≤ 90 := by
 unfold Hg.Rd.enter at h ⊢
 dsimp only at h ⊢
 split at h
 ·
  simp [Hg.Rd.setBad] at h
 ·
  rename_i h1
  rw [if_neg h1]
  simpa using h1
theorem enter_inv {s : Hg.Rd} (h : Hg.Rd.Inv s) : Hg.Rd.Inv s.enter := by
 unfold Hg.Rd.enter; dsimp only; split <;> exact Hg.Rd.inv_same h rfl rfl rfl rfl rfl rfl rfl (Nat.le_refl _)
theorem enter_level (s : Hg.Rd) : s.enter.level = s.level := by unfold Hg.Rd.enter; dsimp only; split <;> rfl
theorem Okk.enter {s s' : Hg.Rd} (h : Okk s) (hd : s.deep ≤ 999) (g : Hg.Rd.Grow s.enter s') (hf : Fin_ s') : Okk s.enter :=
 ⟨enter_inv h.inv, hf.of g, by rw [enter_deep]; omega, by rw [enter_level]; exact h.level⟩
def ExprC (f : Nat) : Prop := ∀ (rb : Nat) (s : Hg.Rd) (u : Nat) (s' : Hg.Rd) (w : World), Hg.Rd.expr f s u = some s' → RdAt w rb s → Okk s → s.deep ≤ 90 → Fin_ s' → u < s.rows.length →
 Calls Tryz.prog 111 #[.pointer (some ⟨rb, 0, none⟩), .int .i64 (u : Int)] w fun e w' => e = .returned (.tuple #[]) ∧ RdAt w' rb s' ∧ Below rb w w'
def CallC (f : Nat) : Prop := ∀ (rb : Nat) (s : Hg.Rd) (u : Nat) (m : List UInt8) (s' : Hg.Rd) (w : World), Hg.Rd.call f s u m = some s' → RdAt w rb s → Okk s → s.deep ≤ 90 → Fin_ s' → u < s.rows.length → m.length ≤ 1000000 →
 Calls Tryz.prog 137 #[.pointer (some ⟨rb, 0, none⟩), .int .i64 (u : Int), strV m] w fun e w' => e = .returned (.tuple #[]) ∧ RdAt w' rb s' ∧ Below rb w w'
set_option maxHeartbeats 2000000 in
set_option maxRecDepth 100000 in
theorem expr9_number (rb : Nat) (s : Hg.Rd) (u : Nat) (w : World) (hR : RdAt w rb s) (ho : Okk s) (h2 : s.text 2 ≠ []) (hf : Fin_ (s.step.node u (Hg.Rd.ndNum 13 (Hg.r8number (s.text 2))))) (hu : u < s.rows.length) :
 Calls Tryz.prog 111 #[.pointer (some ⟨rb, 0, none⟩), .int .i64 (u : Int)] w fun e w' => e = .returned (.tuple #[]) ∧ RdAt w' rb (s.step.node u (Hg.Rd.ndNum 13 (Hg.r8number (s.text 2)))) ∧ Below rb w w' := by
 have ho1 : Okk s.step := ho.es (Hg.Rd.es_step s) (Hg.Rd.grow_node _ _ _) hf
 have ht := ho.text 2
 have b1 := ho.fin.at_
 have hq : (s.text 2 == []) = false := by simp [h2]
 have hq2 : (s.text 2).isEmpty = false := by simp [h2]
 have hpos : 0 < (s.text 2).length := List.length_pos_iff.2 h2
 have T := fun W h => Lib.hid (text9_ok (rb := rb) (s := s) (k := 2) (w := W) h ho rfl)
 generalize s.text 2 = tx at *
 have hu1 : u < s.step.rows.length := hu
 clear h2
 go_enter Tryz.func111, Tryz.ntmps111
 go_wp2_with (first
  | (go_at_call 106; refine ((T _ hR).out).mono ?_; rintro e w1 ⟨rfl, hR1, hb1⟩; obtain ⟨c1, _, _, _, _⟩ := hR1.cell; have f1 := hR1.frozen 1)
  | (go_at_call 65; refine (number8_any _ hpos _ (by omega)).mono ?_; rintro e w2 ⟨rfl, rfl⟩)
  | (go_at_call 67; refine (node9_ok (Hg.Rd.ndNum 13 (Hg.r8number tx)) (hR1.setAt (s.at_ + 1)) ho1 rfl hu1).mono ?_; rintro e w3 ⟨rfl, hR3, hb3⟩))
 refine bodyPost_ret (results_none rfl _ _ _) rfl ?_
 exact ⟨rfl, hR3, (hb1.setCell (i := 1) (by decide) _).below.trans hb3⟩
set_option maxHeartbeats 2000000 in
set_option maxRecDepth 100000 in
theorem expr9_var (rb : Nat) (s s' : Hg.Rd) (u : Nat) (w : World) (hR : RdAt w rb s) (ho : Okk s) (h2 : s.text 2 = []) (h1 : s.text 1 ≠ []) (hd : s.step.next [46] = false)
 (he : s' = ((s.step.node u (Hg.Rd.nd 15)).find (s.text 1)).2.setRef s.rows.length ((s.step.node u (Hg.Rd.nd 15)).find (s.text 1)).1) (hf : Fin_ s') (hu : u < s.rows.length) :
 Calls Tryz.prog 111 #[.pointer (some ⟨rb, 0, none⟩), .int .i64 (u : Int)] w fun e w' => e = .returned (.tuple #[]) ∧ RdAt w' rb s' ∧ Below rb w w' := by
 have es1 := Hg.Rd.es_node s.step u (Hg.Rd.nd 15) rfl
 have es2 := Hg.Rd.es_find (s.step.node u (Hg.Rd.nd 15)) (s.text 1)
 have g3 := Hg.Rd.grow_setRef ((s.step.node u (Hg.Rd.nd 15)).find (s.text 1)).2 s.rows.length ((s.step.node u (Hg.Rd.nd 15)).find (s.text 1)).1
 rw [← he] at g3
 have ho1 : Okk s.step := ho.es (Hg.Rd.es_step s) (es1.grow.trans (es2.grow.trans g3)) hf
 have ho2 : Okk (s.step.node u (Hg.Rd.nd 15)) := ho1.es es1 (es2.grow.trans g3) hf
 have hln : (s.step.node u (Hg.Rd.nd 15)).rows.length = s.rows.length + 1 := Hg.Rd.len_node _ _ _
 have hgr := es2.grow.len
 have b1 := ho.fin.at_
 have ht := ho.text 1
 have hq : (s.text 1 == []) = false := by simp [h1]
 have hq2 : (s.text 1).isEmpty = false := by simp [h1]
 have T2 := fun W h => Lib.hid (text9_z (rb := rb) (s := s) 2 2 (w := W) h ho h2 rfl)
 have T1 := fun W h => Lib.hid (text9_z (rb := rb) (s := s) 1 1 (w := W) h ho rfl rfl)
 have TD := fun W h => Lib.hid (next9_ok (rb := rb) (s := s.step) (t := [46]) (w := W) h ho1 hd)
 have TN := fun W h => Lib.hid (node9_n (rb := rb) (s := s.step) (under := u) s.rows.length (Hg.Rd.nd 15) (w := W) h ho1 rfl hu rfl)
 have TF := fun W h => Lib.hid (find9_ok (rb := rb) (s := s.step.node u (Hg.Rd.nd 15)) (t := s.text 1) (w := W) h ho2)
 generalize s.text 1 = tx at *
 clear h1 h2
 go_enter Tryz.func111, Tryz.ntmps111
 go_wp2_with (first
  | (go_at_call 106; ((with_reducible refine ((T2 _ hR).out).mono ?_); rintro e w1 ⟨rfl, hR1, hb1⟩))
  | (go_at_call 106; ((with_reducible refine ((T1 _ hR1).out).mono ?_); rintro e w2 ⟨rfl, hR2, hb2⟩; obtain ⟨c1, _, _, _, _⟩ := hR2.cell; have f1 := hR2.frozen 1))
  | (go_at_call 107; refine ((TD _ (hR2.setAt (s.at_ + 1))).out).mono ?_; rintro e w3 ⟨rfl, hR3, hb3⟩)
  | (go_at_call 67; refine ((TN _ hR3).out).mono ?_; rintro e w4 ⟨rfl, hR4, hb4⟩; generalize hs1 : s.step.node u (Hg.Rd.nd 15) = s1 at *; obtain ⟨g, c, c4, hg1, hg2, _⟩ := hR4.forCell (k := s.rows.length) (List.getElem?_eq_getElem (by omega)); have hHeld : (fun w' => w'.cell? ⟨rb, 4, none⟩ = some (.slice (some ⟨g, 0, none⟩) s1.rows.length c)) w4.drew := c4))
 refine wp_region_two (fun w' => w'.cell? ⟨rb, 4, none⟩ = some (.slice (some ⟨g, 0, none⟩) s1.rows.length c)) 8 (by kernel_rfl) ?_
 refine tk 0 ?_ rfl (by kernel_rfl) (fun _ _ _ h => h) ‹_› ?_ ?_ (tk 1 ?_ rfl (by kernel_rfl) (fun _ _ _ h => h) ‹_› ?_ ?_ (tk 2 ?_ rfl (by kernel_rfl) (fun _ _ _ h => h) ‹_› ?_ ?_ (tk 3 ?_ rfl (by kernel_rfl) (fun _ _ _ h => h) ‹_› ?_ ?_ (tk 4 ?_ rfl (by kernel_rfl) (fun _ _ _ h => h) ‹_› ?_ ?_ (tk 5 ?_ rfl (by kernel_rfl) (fun _ _ _ h => h) ‹_› ?_ ?_ (tk 6 ?_ rfl (by kernel_rfl) (fun _ _ _ h => h) ‹_› ?_ ?_ ?_))))))
 all_goals try (first | rfl | ((try simp only [Act.put, sA, sB, sC]); intro w' hSw; (try dsimp only at hSw); go_simp; try with_reducible rfl))
 try simp only [Act.put, sA, sB, sC]
 refine wpAnyT_one (i := 7) rfl (by kernel_rfl) (fun K hK => ?_)
 go_simp
 go_at_call 138
 refine ((TF _ (hR4.drewN 1)).out).mono ?_
 rintro e w5 ⟨rfl, hR5, hb5⟩
 refine hK.out _ _ (hb5.c4.trans hHeld) (fun hHeld => ?_)
 clear hK K
 try simp only [Act.put, sA, sB, sC]
 refine wpAnyT_tail (by kernel_rfl) ?_
 simp only [List.drop_succ_cons, List.drop_zero]
 clear hHeld
 obtain ⟨g', c', c4', _, hg3, _, hcs, hfz, hset⟩ := hR5.forCell (k := s.rows.length) (List.getElem?_eq_getElem (by omega))
 have hgg := hb5.c4.symm.trans c4'
 rw [show (w4.drewN 1).cell? ⟨rb, 4, none⟩ = w4.cell? ⟨rb, 4, none⟩ from rfl, c4] at hgg
 injection hgg with hgg
 injection hgg with e1 e2 e3
 injection e1 with e1
 injection e1 with e1
 subst e1
 obtain ⟨u5, hc5⟩ := hcs 5 (by omega)
 have hf5 := hfz (s.rows.length * 7 + 5)
 have HS := Lib.hid hset
 have hi1 : (0 : Int) ≤ (s.rows.length : Int) := by omega
 have hi2 : (s.rows.length : Int) < (s1.rows.length : Int) := by omega
 clear hset hcs hfz
 go_wp2
 refine bodyPost_ret (results_none rfl _ _ _) rfl ?_
 obtain ⟨r1, r2⟩ := HS.out 5 (.int .u64 ((s1.find tx).1 : Int)) (fun x => { x with node := { x.node with ref := (s1.find tx).1 } }) (by omega) (fun _ _ => rfl) (fun _ => rfl)
 rw [show s.rows.length * 7 + 1 + 4 = s.rows.length * 7 + 5 by omega]
 subst he; exact ⟨rfl, r1, ((hb1.trans (hb2.setCell (i := 1) (by decide) _)).trans hb3).below.trans (hb4.trans (((below_drewN (Below.refl _ _) 1).trans hb5.below).trans r2))⟩
set_option maxHeartbeats 2000000 in
set_option maxRecDepth 100000 in
theorem expr9_call (rb : Nat) (s s' : Hg.Rd) (u : Nat) (w : World) (hR : RdAt w rb s) (ho : Okk s) (h2 : s.text 2 = []) (h1 : s.text 1 ≠ []) (hd : s.step.next [46] = true) (f : Nat) (ih : CallC f) (hdp : s.deep ≤ 90)
 (he : Hg.Rd.call f s.step u (s.text 1) = some s') (hf : Fin_ s') (hu : u < s.rows.length) :
 Calls Tryz.prog 111 #[.pointer (some ⟨rb, 0, none⟩), .int .i64 (u : Int)] w fun e w' => e = .returned (.tuple #[]) ∧ RdAt w' rb s' ∧ Below rb w w' := by
 have es1 := (Hg.Rd.expr_es f).2.1 _ _ _ _ he
 have ho1 : Okk s.step := ho.es (Hg.Rd.es_step s) es1.grow hf
 have b1 := ho.fin.at_
 have ht := ho.text 1
 have hq : (s.text 1 == []) = false := by simp [h1]
 have hq2 : (s.text 1).isEmpty = false := by simp [h1]
 have T2 := fun W h => Lib.hid (text9_z (rb := rb) (s := s) 2 2 (w := W) h ho h2 rfl)
 have T1 := fun W h => Lib.hid (text9_z (rb := rb) (s := s) 1 1 (w := W) h ho rfl rfl)
 have TD := fun W h => Lib.hid (next9_ok (rb := rb) (s := s.step) (t := [46]) (w := W) h ho1 hd)
 have TC := fun W h => Lib.hid (ih rb s.step u (s.text 1) s' W he h ho1 hdp hf hu ht)
 generalize s.text 1 = tx at *
 clear h1 h2
 go_enter Tryz.func111, Tryz.ntmps111
 go_wp2_with (first
  | (go_at_call 106; ((with_reducible refine ((T2 _ hR).out).mono ?_); rintro e w1 ⟨rfl, hR1, hb1⟩))
  | (go_at_call 106; ((with_reducible refine ((T1 _ hR1).out).mono ?_); rintro e w2 ⟨rfl, hR2, hb2⟩; obtain ⟨c1, _, _, _, _⟩ := hR2.cell; have f1 := hR2.frozen 1))
  | (go_at_call 107; refine ((TD _ (hR2.setAt (s.at_ + 1))).out).mono ?_; rintro e w3 ⟨rfl, hR3, hb3⟩)
  | (go_at_call 137; refine ((TC _ hR3).out).mono ?_; rintro e w4 ⟨rfl, hR4, hb4⟩))
 refine bodyPost_ret (results_none rfl _ _ _) rfl ?_
 exact ⟨rfl, hR4, ((hb1.trans (hb2.setCell (i := 1) (by decide) _)).trans hb3).below.trans hb4⟩
set_option maxHeartbeats 2000000 in
set_option maxRecDepth 100000 in
theorem expr9_true (rb : Nat) (s s' : Hg.Rd) (u : Nat) (w : World) (hR : RdAt w rb s) (ho : Okk s) (h2 : s.text 2 = []) (h1 : s.text 1 = [])  (hy : s.next [116, 114, 117, 101] = true)
 (he : s' = s.step.node u (Hg.Rd.ndNum 14 1)) (hf : Fin_ s') (hu : u < s.rows.length) :
 Calls Tryz.prog 111 #[.pointer (some ⟨rb, 0, none⟩), .int .i64 (u : Int)] w fun e w' => e = .returned (.tuple #[]) ∧ RdAt w' rb s' ∧ Below rb w w' := by
 subst he
 have ho1 : Okk s.step := ho.es (Hg.Rd.es_step s) (Hg.Rd.grow_node _ _ _) hf
 have T2 := fun W h => Lib.hid (text9_z (rb := rb) (s := s) 2 2 (w := W) h ho h2 rfl)
 have T1 := fun W h => Lib.hid (text9_z (rb := rb) (s := s) 1 1 (w := W) h ho h1 rfl)
 have TY := fun W h => Lib.hid (eat9_yes (rb := rb) (s := s) (t := [116, 114, 117, 101]) (w := W) h ho hy)
 have TN := fun W h => Lib.hid (node9_n (rb := rb) (s := s.step) (under := u) s.rows.length (Hg.Rd.ndNum 14 1) (w := W) h ho1 rfl hu rfl)
 go_enter Tryz.func111, Tryz.ntmps111
 go_wp2_with (first
  | (go_at_call 106; ((with_reducible refine ((T2 _ hR).out).mono ?_); rintro e w1 ⟨rfl, hR1, hb1⟩))
  | (go_at_call 106; ((with_reducible refine ((T1 _ hR1).out).mono ?_); rintro e w2 ⟨rfl, hR2, hb2⟩))
  | (go_at_call 72; ((with_reducible refine ((TY _ hR2).out).mono ?_); rintro e w3 ⟨rfl, hR3, hb3⟩))
  | (go_at_call 67; refine ((TN _ hR3).out).mono ?_; rintro e w4 ⟨rfl, hR4, hb4⟩))
 go_end0
 exact ⟨rfl, hR4, (((hb1).trans hb2).trans hb3).below.trans hb4⟩
set_option maxHeartbeats 2000000 in
set_option maxRecDepth 100000 in
theorem expr9_false (rb : Nat) (s s' : Hg.Rd) (u : Nat) (w : World) (hR : RdAt w rb s) (ho : Okk s) (h2 : s.text 2 = []) (h1 : s.text 1 = []) (hn0 : s.next [116, 114, 117, 101] = false) (hy : s.next [102, 97, 108, 115, 101] = true)
 (he : s' = s.step.node u (Hg.Rd.nd 14)) (hf : Fin_ s') (hu : u < s.rows.length) :
 Calls Tryz.prog 111 #[.pointer (some ⟨rb, 0, none⟩), .int .i64 (u : Int)] w fun e w' => e = .returned (.tuple #[]) ∧ RdAt w' rb s' ∧ Below rb w w' := by
 subst he
 have ho1 : Okk s.step := ho.es (Hg.Rd.es_step s) (Hg.Rd.grow_node _ _ _) hf
 have T2 := fun W h => Lib.hid (text9_z (rb := rb) (s := s) 2 2 (w := W) h ho h2 rfl)
 have T1 := fun W h => Lib.hid (text9_z (rb := rb) (s := s) 1 1 (w := W) h ho h1 rfl)
 have TE0 := fun W h => Lib.hid (eat9_no (rb := rb) (s := s) (t := [116, 114, 117, 101]) (w := W) h ho hn0)
 have TY := fun W h => Lib.hid (eat9_yes (rb := rb) (s := s) (t := [102, 97, 108, 115, 101]) (w := W) h ho hy)
 have TN := fun W h => Lib.hid (node9_n (rb := rb) (s := s.step) (under := u) s.rows.length (Hg.Rd.nd 14) (w := W) h ho1 rfl hu rfl)
 go_enter Tryz.func111, Tryz.ntmps111
 go_wp2_with (first
  | (go_at_call 106; ((with_reducible refine ((T2 _ hR).out).mono ?_); rintro e w1 ⟨rfl, hR1, hb1⟩))
  | (go_at_call 106; ((with_reducible refine ((T1 _ hR1).out).mono ?_); rintro e w2 ⟨rfl, hR2, hb2⟩))
  | (go_at_call 72; ((with_reducible refine ((TE0 _ hR2).out).mono ?_); rintro e w3 ⟨rfl, hR3, hb3⟩))
  | (go_at_call 72; ((with_reducible refine ((TY _ hR3).out).mono ?_); rintro e w4 ⟨rfl, hR4, hb4⟩))
  | (go_at_call 67; refine ((TN _ hR4).out).mono ?_; rintro e w5 ⟨rfl, hR5, hb5⟩))
 go_end0
 exact ⟨rfl, hR5, ((((hb1).trans hb2).trans hb3).trans hb4).below.trans hb5⟩
set_option maxHeartbeats 2000000 in
set_option maxRecDepth 100000 in
theorem expr9_read (rb : Nat) (s s' : Hg.Rd) (u : Nat) (w : World) (hR : RdAt w rb s) (ho : Okk s) (h2 : s.text 2 = []) (h1 : s.text 1 = []) (hn0 : s.next [116, 114, 117, 101] = false) (hn1 : s.next [102, 97, 108, 115, 101] = false) (hy : s.next [114, 101, 97, 100] = true)
 (he : s' = s.step.node u (Hg.Rd.nd 20)) (hf : Fin_ s') (hu : u < s.rows.length) :
 Calls Tryz.prog 111 #[.pointer (some ⟨rb, 0, none⟩), .int .i64 (u : Int)] w fun e w' => e = .returned (.tuple #[]) ∧ RdAt w' rb s' ∧ Below rb w w' := by
 subst he
 have ho1 : Okk s.step := ho.es (Hg.Rd.es_step s) (Hg.Rd.grow_node _ _ _) hf
 have T2 := fun W h => Lib.hid (text9_z (rb := rb) (s := s) 2 2 (w := W) h ho h2 rfl)
 have T1 := fun W h => Lib.hid (text9_z (rb := rb) (s := s) 1 1 (w := W) h ho h1 rfl)
 have TE0 := fun W h => Lib.hid (eat9_no (rb := rb) (s := s) (t := [116, 114, 117, 101]) (w := W) h ho hn0)
 have TE1 := fun W h => Lib.hid (eat9_no (rb := rb) (s := s) (t := [102, 97, 108, 115, 101]) (w := W) h ho hn1)
 have TY := fun W h => Lib.hid (eat9_yes (rb := rb) (s := s) (t := [114, 101, 97, 100]) (w := W) h ho hy)
 have TN := fun W h => Lib.hid (node9_n (rb := rb) (s := s.step) (under := u) s.rows.length (Hg.Rd.nd 20) (w := W) h ho1 rfl hu rfl)
 go_enter Tryz.func111, Tryz.ntmps111
 go_wp2_with (first
  | (go_at_call 106; ((with_reducible refine ((T2 _ hR).out).mono ?_); rintro e w1 ⟨rfl, hR1, hb1⟩))
  | (go_at_call 106; ((with_reducible refine ((T1 _ hR1).out).mono ?_); rintro e w2 ⟨rfl, hR2, hb2⟩))
  | (go_at_call 72; ((with_reducible refine ((TE0 _ hR2).out).mono ?_); rintro e w3 ⟨rfl, hR3, hb3⟩))
  | (go_at_call 72; ((with_reducible refine ((TE1 _ hR3).out).mono ?_); rintro e w4 ⟨rfl, hR4, hb4⟩))
  | (go_at_call 72; ((with_reducible refine ((TY _ hR4).out).mono ?_); rintro e w5 ⟨rfl, hR5, hb5⟩))
  | (go_at_call 67; refine ((TN _ hR5).out).mono ?_; rintro e w6 ⟨rfl, hR6, hb6⟩))
 go_end0
 exact ⟨rfl, hR6, (((((hb1).trans hb2).trans hb3).trans hb4).trans hb5).below.trans hb6⟩
set_option maxHeartbeats 2000000 in
set_option maxRecDepth 100000 in
theorem expr9_bad (rb : Nat) (s s' : Hg.Rd) (u : Nat) (w : World) (hR : RdAt w rb s) (ho : Okk s) (h2 : s.text 2 = []) (h1 : s.text 1 = []) (hn0 : s.next [116, 114, 117, 101] = false) (hn1 : s.next [102, 97, 108, 115, 101] = false) (hn2 : s.next [114, 101, 97, 100] = false) (h33 : s.next [33] = false) (h45 : s.next [45] = false) (hn9 : s.next [40] = false) :
 Calls Tryz.prog 111 #[.pointer (some ⟨rb, 0, none⟩), .int .i64 (u : Int)] w fun e w' => e = .returned (.tuple #[]) ∧ RdAt w' rb s.setBad ∧ Below rb w w' := by
 have T2 := fun W h => Lib.hid (text9_z (rb := rb) (s := s) 2 2 (w := W) h ho h2 rfl)
 have T1 := fun W h => Lib.hid (text9_z (rb := rb) (s := s) 1 1 (w := W) h ho h1 rfl)
 have TE0 := fun W h => Lib.hid (eat9_no (rb := rb) (s := s) (t := [116, 114, 117, 101]) (w := W) h ho hn0)
 have TE1 := fun W h => Lib.hid (eat9_no (rb := rb) (s := s) (t := [102, 97, 108, 115, 101]) (w := W) h ho hn1)
 have TE2 := fun W h => Lib.hid (eat9_no (rb := rb) (s := s) (t := [114, 101, 97, 100]) (w := W) h ho hn2)
 have TA := fun W h => Lib.hid (next9_ok (rb := rb) (s := s) (t := [33]) (w := W) h ho h33)
 have TB := fun W h => Lib.hid (next9_ok (rb := rb) (s := s) (t := [45]) (w := W) h ho h45)
 have TC := fun W h => Lib.hid (eat9_no (rb := rb) (s := s) (t := [40]) (w := W) h ho hn9)
 go_enter Tryz.func111, Tryz.ntmps111
 go_wp2_with (first
  | (go_at_call 106; ((with_reducible refine ((T2 _ hR).out).mono ?_); rintro e w1 ⟨rfl, hR1, hb1⟩))
  | (go_at_call 106; ((with_reducible refine ((T1 _ hR1).out).mono ?_); rintro e w2 ⟨rfl, hR2, hb2⟩))
  | (go_at_call 72; ((with_reducible refine ((TE0 _ hR2).out).mono ?_); rintro e w3 ⟨rfl, hR3, hb3⟩))
  | (go_at_call 72; ((with_reducible refine ((TE1 _ hR3).out).mono ?_); rintro e w4 ⟨rfl, hR4, hb4⟩))
  | (go_at_call 72; ((with_reducible refine ((TE2 _ hR4).out).mono ?_); rintro e w5 ⟨rfl, hR5, hb5⟩))
  | (go_at_call 107; ((with_reducible refine ((TA _ hR5).out).mono ?_); rintro e w6 ⟨rfl, hR6, hb6⟩))
  | (go_at_call 107; ((with_reducible refine ((TB _ hR6).out).mono ?_); rintro e w7 ⟨rfl, hR7, hb7⟩))
  | (go_at_call 72; ((with_reducible refine ((TC _ hR7).out).mono ?_); rintro e w8 ⟨rfl, hR8, hb8⟩; obtain ⟨_, _, c3, _, _⟩ := hR8.cell; have f3 := hR8.frozen 3)))
 go_end0
 exact ⟨rfl, hR8.setBad, ((((((((hb1).trans hb2).trans hb3).trans hb4).trans hb5).trans hb6).trans hb7).trans hb8).below.setCell (p := ⟨rb, 3, none⟩) (Nat.le_refl _) _⟩
set_option maxHeartbeats 2000000 in
set_option maxRecDepth 100000 in
theorem expr9_not_bad (rb : Nat) (s s' : Hg.Rd) (u : Nat) (w : World) (hR : RdAt w rb s) (ho : Okk s) (h2 : s.text 2 = []) (h1 : s.text 1 = []) (hn0 : s.next [116, 114, 117, 101] = false) (hn1 : s.next [102, 97, 108, 115, 101] = false) (hn2 : s.next [114, 101, 97, 100] = false) (h33 : s.next [33] = true) (hb : (s.step.node u (Hg.Rd.nd 16)).enter.bad = true) (he : s' = (s.step.node u (Hg.Rd.nd 16)).enter.leave) (hdp : s.deep ≤ 90) (hf : Fin_ s') (hu : u < s.rows.length) :
 Calls Tryz.prog 111 #[.pointer (some ⟨rb, 0, none⟩), .int .i64 (u : Int)] w fun e w' => e = .returned (.tuple #[]) ∧ RdAt w' rb s' ∧ Below rb w w' := by
 subst he
 have es0 := Hg.Rd.es_node s.step u (Hg.Rd.nd 16) rfl
 have hgr : Hg.Rd.Grow (s.step.node u (Hg.Rd.nd 16)) (s.step.node u (Hg.Rd.nd 16)).enter.leave := (Hg.Rd.grow_enter _).trans (Hg.Rd.grow_leave _)
 have ho1 : Okk s.step := ho.es (Hg.Rd.es_step s) (es0.grow.trans hgr) hf
 have ho2 : Okk (s.step.node u (Hg.Rd.nd 16)) := ho1.es es0 hgr hf
 have b1 := ho.fin.at_
 have hdp2 : (s.step.node u (Hg.Rd.nd 16)).enter.deep = s.deep + 1 := enter_deep _
 have T2 := fun W h => Lib.hid (text9_z (rb := rb) (s := s) 2 2 (w := W) h ho h2 rfl)
 have T1 := fun W h => Lib.hid (text9_z (rb := rb) (s := s) 1 1 (w := W) h ho h1 rfl)
 have TE0 := fun W h => Lib.hid (eat9_no (rb := rb) (s := s) (t := [116, 114, 117, 101]) (w := W) h ho hn0)
 have TE1 := fun W h => Lib.hid (eat9_no (rb := rb) (s := s) (t := [102, 97, 108, 115, 101]) (w := W) h ho hn1)
 have TE2 := fun W h => Lib.hid (eat9_no (rb := rb) (s := s) (t := [114, 101, 97, 100]) (w := W) h ho hn2)
 have TA := fun W h => Lib.hid (next9_ok (rb := rb) (s := s) (t := [33]) (w := W) h ho h33)
 have TN := fun W h => Lib.hid (node9_n (rb := rb) (s := s.step) (under := u) s.rows.length (Hg.Rd.nd 16) (w := W) h ho1 rfl hu rfl)
 have TQ := fun W h => Lib.hid (enter9_ok (rb := rb) (s := s.step.node u (Hg.Rd.nd 16)) (w := W) (b := false) h ho2 (by rw [hb]; rfl))
 go_enter Tryz.func111, Tryz.ntmps111
 go_wp2_with (first
  | (go_at_call 106; ((with_reducible refine ((T2 _ hR).out).mono ?_); rintro e w1 ⟨rfl, hR1, hb1⟩))
  | (go_at_call 106; ((with_reducible refine ((T1 _ hR1).out).mono ?_); rintro e w2 ⟨rfl, hR2, hb2⟩))
  | (go_at_call 72; ((with_reducible refine ((TE0 _ hR2).out).mono ?_); rintro e w3 ⟨rfl, hR3, hb3⟩))
  | (go_at_call 72; ((with_reducible refine ((TE1 _ hR3).out).mono ?_); rintro e w4 ⟨rfl, hR4, hb4⟩))
  | (go_at_call 72; ((with_reducible refine ((TE2 _ hR4).out).mono ?_); rintro e w5 ⟨rfl, hR5, hb5⟩))
  | (go_at_call 107; ((with_reducible refine ((TA _ hR5).out).mono ?_); rintro e w6 ⟨rfl, hR6, hb6⟩))
  | (go_at_call 107; ((with_reducible refine ((TA _ hR6).out).mono ?_); rintro e w7 ⟨rfl, hR7, hb7⟩); obtain ⟨c1, _, _, _, _⟩ := hR7.cell; have f1 := hR7.frozen 1)
  | (go_at_call 67; refine ((TN _ (hR7.setAt (s.at_ + 1))).out).mono ?_; rintro e w8 ⟨rfl, hR8, hb8⟩)
  | (go_at_call 139; refine ((TQ _ hR8).out).mono ?_; rintro e w9 ⟨rfl, hR9, hb9⟩; obtain ⟨_, c2, _, _, _⟩ := hR9.cell; have f2 := hR9.frozen 2))
 go_end0
 exact ⟨rfl, hR9.leave9 (by omega) (by omega), (((((((hb1).trans hb2).trans hb3).trans hb4).trans hb5).trans hb6).trans hb7).below.trans ((((Below.refl _ _).setCell (p := ⟨rb, 1, none⟩) (Nat.le_refl _) _).trans hb8).trans ((hb9).setCell (p := ⟨rb, 2, none⟩) (Nat.le_refl _) _))⟩
set_option maxHeartbeats 2000000 in
set_option maxRecDepth 100000 in
theorem expr9_not_ok (rb : Nat) (s s' : Hg.Rd) (u : Nat) (w : World) (hR : RdAt w rb s) (ho : Okk s) (h2 : s.text 2 = []) (h1 : s.text 1 = []) (hn0 : s.next [116, 114, 117, 101] = false) (hn1 : s.next [102, 97, 108, 115, 101] = false) (hn2 : s.next [114, 101, 97, 100] = false) (h33 : s.next [33] = true) (hb : (s.step.node u (Hg.Rd.nd 16)).enter.bad = false) (f : Nat) (ih : ExprC f) (s1 : Hg.Rd) (he1 : Hg.Rd.expr f (s.step.node u (Hg.Rd.nd 16)).enter s.rows.length = some s1) (he : s' = s1.leave) (hdp : s.deep ≤ 90) (hf : Fin_ s') (hu : u < s.rows.length) :
 Calls Tryz.prog 111 #[.pointer (some ⟨rb, 0, none⟩), .int .i64 (u : Int)] w fun e w' => e = .returned (.tuple #[]) ∧ RdAt w' rb s' ∧ Below rb w w' := by
 subst he
 have es1 := (Hg.Rd.expr_es f).1 _ _ _ he1
 have es0 := Hg.Rd.es_node s.step u (Hg.Rd.nd 16) rfl
 have hgr : Hg.Rd.Grow (s.step.node u (Hg.Rd.nd 16)) s1.leave := ((Hg.Rd.grow_enter _).trans es1.grow).trans (Hg.Rd.grow_leave _)
 have ho1 : Okk s.step := ho.es (Hg.Rd.es_step s) (es0.grow.trans hgr) hf
 have ho2 : Okk (s.step.node u (Hg.Rd.nd 16)) := ho1.es es0 hgr hf
 have b1 := ho.fin.at_
 have hdp2 : s1.deep = s.deep + 1 := by rw [es1.deep]; exact enter_deep _
 have ho3 := ho2.enter (by rw [es0.deep]; show s.deep ≤ 999; omega) es1.grow (hf.of (Hg.Rd.grow_leave _))
 have hd3 := enter_deep_le (s := s.step.node u (Hg.Rd.nd 16)) hb
 have TX := fun W h => Lib.hid (ih rb _ s.rows.length s1 W he1 h ho3 hd3 (hf.of (Hg.Rd.grow_leave _)) (by rw [enter_rows, Hg.Rd.len_node]; exact Nat.lt_succ_self _))
 have T2 := fun W h => Lib.hid (text9_z (rb := rb) (s := s) 2 2 (w := W) h ho h2 rfl)
 have T1 := fun W h => Lib.hid (text9_z (rb := rb) (s := s) 1 1 (w := W) h ho h1 rfl)
 have TE0 := fun W h => Lib.hid (eat9_no (rb := rb) (s := s) (t := [116, 114, 117, 101]) (w := W) h ho hn0)
 have TE1 := fun W h => Lib.hid (eat9_no (rb := rb) (s := s) (t := [102, 97, 108, 115, 101]) (w := W) h ho hn1)
 have TE2 := fun W h => Lib.hid (eat9_no (rb := rb) (s := s) (t := [114, 101, 97, 100]) (w := W) h ho hn2)
 have TA := fun W h => Lib.hid (next9_ok (rb := rb) (s := s) (t := [33]) (w := W) h ho h33)
 have TN := fun W h => Lib.hid (node9_n (rb := rb) (s := s.step) (under := u) s.rows.length (Hg.Rd.nd 16) (w := W) h ho1 rfl hu rfl)
 have TQ := fun W h => Lib.hid (enter9_ok (rb := rb) (s := s.step.node u (Hg.Rd.nd 16)) (w := W) (b := true) h ho2 (by rw [hb]; rfl))
 go_enter Tryz.func111, Tryz.ntmps111
 go_wp2_with (first
  | (go_at_call 106; ((with_reducible refine ((T2 _ hR).out).mono ?_); rintro e w1 ⟨rfl, hR1, hb1⟩))
  | (go_at_call 106; ((with_reducible refine ((T1 _ hR1).out).mono ?_); rintro e w2 ⟨rfl, hR2, hb2⟩))
  | (go_at_call 72; ((with_reducible refine ((TE0 _ hR2).out).mono ?_); rintro e w3 ⟨rfl, hR3, hb3⟩))
  | (go_at_call 72; ((with_reducible refine ((TE1 _ hR3).out).mono ?_); rintro e w4 ⟨rfl, hR4, hb4⟩))
  | (go_at_call 72; ((with_reducible refine ((TE2 _ hR4).out).mono ?_); rintro e w5 ⟨rfl, hR5, hb5⟩))
  | (go_at_call 107; ((with_reducible refine ((TA _ hR5).out).mono ?_); rintro e w6 ⟨rfl, hR6, hb6⟩))
  | (go_at_call 107; ((with_reducible refine ((TA _ hR6).out).mono ?_); rintro e w7 ⟨rfl, hR7, hb7⟩); obtain ⟨c1, _, _, _, _⟩ := hR7.cell; have f1 := hR7.frozen 1)
  | (go_at_call 67; refine ((TN _ (hR7.setAt (s.at_ + 1))).out).mono ?_; rintro e w8 ⟨rfl, hR8, hb8⟩)
  | (go_at_call 139; refine ((TQ _ hR8).out).mono ?_; rintro e w9 ⟨rfl, hR9, hb9⟩)
  | (go_at_call 111; refine ((TX _ hR9).out).mono ?_; rintro e w10 ⟨rfl, hR10, hb10⟩; obtain ⟨_, c2, _, _, _⟩ := hR10.cell; have f2 := hR10.frozen 2))
 go_end0
 exact ⟨rfl, hR10.leave9 (by omega) (by omega), (((((((hb1).trans hb2).trans hb3).trans hb4).trans hb5).trans hb6).trans hb7).below.trans ((((Below.refl _ _).setCell (p := ⟨rb, 1, none⟩) (Nat.le_refl _) _).trans hb8).trans ((hb9.trans hb10).setCell (p := ⟨rb, 2, none⟩) (Nat.le_refl _) _))⟩
set_option maxHeartbeats 2000000 in
set_option maxRecDepth 100000 in
theorem expr9_neg_bad (rb : Nat) (s s' : Hg.Rd) (u : Nat) (w : World) (hR : RdAt w rb s) (ho : Okk s) (h2 : s.text 2 = []) (h1 : s.text 1 = []) (hn0 : s.next [116, 114, 117, 101] = false) (hn1 : s.next [102, 97, 108, 115, 101] = false) (hn2 : s.next [114, 101, 97, 100] = false) (h33 : s.next [33] = false) (h45 : s.next [45] = true) (hb : (s.step.node u (Hg.Rd.nd 17)).enter.bad = true) (he : s' = (s.step.node u (Hg.Rd.nd 17)).enter.leave) (hdp : s.deep ≤ 90) (hf : Fin_ s') (hu : u < s.rows.length) :
 Calls Tryz.prog 111 #[.pointer (some ⟨rb, 0, none⟩), .int .i64 (u : Int)] w fun e w' => e = .returned (.tuple #[]) ∧ RdAt w' rb s' ∧ Below rb w w' := by
 subst he
 have es0 := Hg.Rd.es_node s.step u (Hg.Rd.nd 17) rfl
 have hgr : Hg.Rd.Grow (s.step.node u (Hg.Rd.nd 17)) (s.step.node u (Hg.Rd.nd 17)).enter.leave := (Hg.Rd.grow_enter _).trans (Hg.Rd.grow_leave _)
 have ho1 : Okk s.step := ho.es (Hg.Rd.es_step s) (es0.grow.trans hgr) hf
 have ho2 : Okk (s.step.node u (Hg.Rd.nd 17)) := ho1.es es0 hgr hf
 have b1 := ho.fin.at_
 have hdp2 : (s.step.node u (Hg.Rd.nd 17)).enter.deep = s.deep + 1 := enter_deep _
 have T2 := fun W h => Lib.hid (text9_z (rb := rb) (s := s) 2 2 (w := W) h ho h2 rfl)
 have T1 := fun W h => Lib.hid (text9_z (rb := rb) (s := s) 1 1 (w := W) h ho h1 rfl)
 have TE0 := fun W h => Lib.hid (eat9_no (rb := rb) (s := s) (t := [116, 114, 117, 101]) (w := W) h ho hn0)
 have TE1 := fun W h => Lib.hid (eat9_no (rb := rb) (s := s) (t := [102, 97, 108, 115, 101]) (w := W) h ho hn1)
 have TE2 := fun W h => Lib.hid (eat9_no (rb := rb) (s := s) (t := [114, 101, 97, 100]) (w := W) h ho hn2)
 have TA := fun W h => Lib.hid (next9_ok (rb := rb) (s := s) (t := [33]) (w := W) h ho h33)
 have TB := fun W h => Lib.hid (next9_ok (rb := rb) (s := s) (t := [45]) (w := W) h ho h45)
 have TN := fun W h => Lib.hid (node9_n (rb := rb) (s := s.step) (under := u) s.rows.length (Hg.Rd.nd 17) (w := W) h ho1 rfl hu rfl)
 have TQ := fun W h => Lib.hid (enter9_ok (rb := rb) (s := s.step.node u (Hg.Rd.nd 17)) (w := W) (b := false) h ho2 (by rw [hb]; rfl))
 go_enter Tryz.func111, Tryz.ntmps111
 go_wp2_with (first
  | (go_at_call 106; ((with_reducible refine ((T2 _ hR).out).mono ?_); rintro e w1 ⟨rfl, hR1, hb1⟩))
  | (go_at_call 106; ((with_reducible refine ((T1 _ hR1).out).mono ?_); rintro e w2 ⟨rfl, hR2, hb2⟩))
  | (go_at_call 72; ((with_reducible refine ((TE0 _ hR2).out).mono ?_); rintro e w3 ⟨rfl, hR3, hb3⟩))
  | (go_at_call 72; ((with_reducible refine ((TE1 _ hR3).out).mono ?_); rintro e w4 ⟨rfl, hR4, hb4⟩))
  | (go_at_call 72; ((with_reducible refine ((TE2 _ hR4).out).mono ?_); rintro e w5 ⟨rfl, hR5, hb5⟩))
  | (go_at_call 107; ((with_reducible refine ((TA _ hR5).out).mono ?_); rintro e w6 ⟨rfl, hR6, hb6⟩))
  | (go_at_call 107; ((with_reducible refine ((TB _ hR6).out).mono ?_); rintro e w7 ⟨rfl, hR7, hb7⟩))
  | (go_at_call 107; ((with_reducible refine ((TA _ hR7).out).mono ?_); rintro e w8 ⟨rfl, hR8, hb8⟩); obtain ⟨c1, _, _, _, _⟩ := hR8.cell; have f1 := hR8.frozen 1)
  | (go_at_call 67; refine ((TN _ (hR8.setAt (s.at_ + 1))).out).mono ?_; rintro e w9 ⟨rfl, hR9, hb9⟩)
  | (go_at_call 139; refine ((TQ _ hR9).out).mono ?_; rintro e w10 ⟨rfl, hR10, hb10⟩; obtain ⟨_, c2, _, _, _⟩ := hR10.cell; have f2 := hR10.frozen 2))
 go_end0
 exact ⟨rfl, hR10.leave9 (by omega) (by omega), ((((((((hb1).trans hb2).trans hb3).trans hb4).trans hb5).trans hb6).trans hb7).trans hb8).below.trans ((((Below.refl _ _).setCell (p := ⟨rb, 1, none⟩) (Nat.le_refl _) _).trans hb9).trans ((hb10).setCell (p := ⟨rb, 2, none⟩) (Nat.le_refl _) _))⟩
set_option maxHeartbeats 2000000 in
set_option maxRecDepth 100000 in
theorem expr9_neg_ok (rb : Nat) (s s' : Hg.Rd) (u : Nat) (w : World) (hR : RdAt w rb s) (ho : Okk s) (h2 : s.text 2 = []) (h1 : s.text 1 = []) (hn0 : s.next [116, 114, 117, 101] = false) (hn1 : s.next [102, 97, 108, 115, 101] = false) (hn2 : s.next [114, 101, 97, 100] = false) (h33 : s.next [33] = false) (h45 : s.next [45] = true) (hb : (s.step.node u (Hg.Rd.nd 17)).enter.bad = false) (f : Nat) (ih : ExprC f) (s1 : Hg.Rd) (he1 : Hg.Rd.expr f (s.step.node u (Hg.Rd.nd 17)).enter s.rows.length = some s1) (he : s' = s1.leave) (hdp : s.deep ≤ 90) (hf : Fin_ s') (hu : u < s.rows.length) :
 Calls Tryz.prog 111 #[.pointer (some ⟨rb, 0, none⟩), .int .i64 (u : Int)] w fun e w' => e = .returned (.tuple #[]) ∧ RdAt w' rb s' ∧ Below rb w w' := by
 subst he
 have es1 := (Hg.Rd.expr_es f).1 _ _ _ he1
 have es0 := Hg.Rd.es_node s.step u (Hg.Rd.nd 17) rfl
 have hgr : Hg.Rd.Grow (s.step.node u (Hg.Rd.nd 17)) s1.leave := ((Hg.Rd.grow_enter _).trans es1.grow).trans (Hg.Rd.grow_leave _)
 have ho1 : Okk s.step := ho.es (Hg.Rd.es_step s) (es0.grow.trans hgr) hf
 have ho2 : Okk (s.step.node u (Hg.Rd.nd 17)) := ho1.es es0 hgr hf
 have b1 := ho.fin.at_
 have hdp2 : s1.deep = s.deep + 1 := by rw [es1.deep]; exact enter_deep _
 have ho3 := ho2.enter (by rw [es0.deep]; show s.deep ≤ 999; omega) es1.grow (hf.of (Hg.Rd.grow_leave _))
 have hd3 := enter_deep_le (s := s.step.node u (Hg.Rd.nd 17)) hb
 have TX := fun W h => Lib.hid (ih rb _ s.rows.length s1 W he1 h ho3 hd3 (hf.of (Hg.Rd.grow_leave _)) (by rw [enter_rows, Hg.Rd.len_node]; exact Nat.lt_succ_self _))
 have T2 := fun W h => Lib.hid (text9_z (rb := rb) (s := s) 2 2 (w := W) h ho h2 rfl)
 have T1 := fun W h => Lib.hid (text9_z (rb := rb) (s := s) 1 1 (w := W) h ho h1 rfl)
 have TE0 := fun W h => Lib.hid (eat9_no (rb := rb) (s := s) (t := [116, 114, 117, 101]) (w := W) h ho hn0)
 have TE1 := fun W h => Lib.hid (eat9_no (rb := rb) (s := s) (t := [102, 97, 108, 115, 101]) (w := W) h ho hn1)
 have TE2 := fun W h => Lib.hid (eat9_no (rb := rb) (s := s) (t := [114, 101, 97, 100]) (w := W) h ho hn2)
 have TA := fun W h => Lib.hid (next9_ok (rb := rb) (s := s) (t := [33]) (w := W) h ho h33)
 have TB := fun W h => Lib.hid (next9_ok (rb := rb) (s := s) (t := [45]) (w := W) h ho h45)
 have TN := fun W h => Lib.hid (node9_n (rb := rb) (s := s.step) (under := u) s.rows.length (Hg.Rd.nd 17) (w := W) h ho1 rfl hu rfl)
 have TQ := fun W h => Lib.hid (enter9_ok (rb := rb) (s := s.step.node u (Hg.Rd.nd 17)) (w := W) (b := true) h ho2 (by rw [hb]; rfl))
 go_enter Tryz.func111, Tryz.ntmps111
 go_wp2_with (first
  | (go_at_call 106; ((with_reducible refine ((T2 _ hR).out).mono ?_); rintro e w1 ⟨rfl, hR1, hb1⟩))
  | (go_at_call 106; ((with_reducible refine ((T1 _ hR1).out).mono ?_); rintro e w2 ⟨rfl, hR2, hb2⟩))
  | (go_at_call 72; ((with_reducible refine ((TE0 _ hR2).out).mono ?_); rintro e w3 ⟨rfl, hR3, hb3⟩))
  | (go_at_call 72; ((with_reducible refine ((TE1 _ hR3).out).mono ?_); rintro e w4 ⟨rfl, hR4, hb4⟩))
  | (go_at_call 72; ((with_reducible refine ((TE2 _ hR4).out).mono ?_); rintro e w5 ⟨rfl, hR5, hb5⟩))
  | (go_at_call 107; ((with_reducible refine ((TA _ hR5).out).mono ?_); rintro e w6 ⟨rfl, hR6, hb6⟩))
  | (go_at_call 107; ((with_reducible refine ((TB _ hR6).out).mono ?_); rintro e w7 ⟨rfl, hR7, hb7⟩))
  | (go_at_call 107; ((with_reducible refine ((TA _ hR7).out).mono ?_); rintro e w8 ⟨rfl, hR8, hb8⟩); obtain ⟨c1, _, _, _, _⟩ := hR8.cell; have f1 := hR8.frozen 1)
  | (go_at_call 67; refine ((TN _ (hR8.setAt (s.at_ + 1))).out).mono ?_; rintro e w9 ⟨rfl, hR9, hb9⟩)
  | (go_at_call 139; refine ((TQ _ hR9).out).mono ?_; rintro e w10 ⟨rfl, hR10, hb10⟩)
  | (go_at_call 111; refine ((TX _ hR10).out).mono ?_; rintro e w11 ⟨rfl, hR11, hb11⟩; obtain ⟨_, c2, _, _, _⟩ := hR11.cell; have f2 := hR11.frozen 2))
 go_end0
 exact ⟨rfl, hR11.leave9 (by omega) (by omega), ((((((((hb1).trans hb2).trans hb3).trans hb4).trans hb5).trans hb6).trans hb7).trans hb8).below.trans ((((Below.refl _ _).setCell (p := ⟨rb, 1, none⟩) (Nat.le_refl _) _).trans hb9).trans ((hb10.trans hb11).setCell (p := ⟨rb, 2, none⟩) (Nat.le_refl _) _))⟩
set_option maxHeartbeats 2000000 in
set_option maxRecDepth 100000 in
theorem expr9_bin_bad (rb : Nat) (s s' : Hg.Rd) (u : Nat) (w : World) (hR : RdAt w rb s) (ho : Okk s) (h2 : s.text 2 = []) (h1 : s.text 1 = []) (hn0 : s.next [116, 114, 117, 101] = false) (hn1 : s.next [102, 97, 108, 115, 101] = false) (hn2 : s.next [114, 101, 97, 100] = false) (h33 : s.next [33] = false) (h45 : s.next [45] = false) (h40 : s.next [40] = true) (hb : (s.step.node u (Hg.Rd.nd 18)).enter.bad = true) (he : s' = (s.step.node u (Hg.Rd.nd 18)).enter.leave) (hdp : s.deep ≤ 90) (hf : Fin_ s') (hu : u < s.rows.length) :
 Calls Tryz.prog 111 #[.pointer (some ⟨rb, 0, none⟩), .int .i64 (u : Int)] w fun e w' => e = .returned (.tuple #[]) ∧ RdAt w' rb s' ∧ Below rb w w' := by
 have es0 := Hg.Rd.es_node s.step u (Hg.Rd.nd 18) rfl
 have hgr : Hg.Rd.Grow (s.step.node u (Hg.Rd.nd 18)) s' := by rw [he]; exact (Hg.Rd.grow_enter _).trans (Hg.Rd.grow_leave _)
 have ho1 : Okk s.step := ho.es (Hg.Rd.es_step s) (es0.grow.trans hgr) hf
 have ho2 : Okk (s.step.node u (Hg.Rd.nd 18)) := ho1.es es0 hgr hf
 have hdp2 : (s.step.node u (Hg.Rd.nd 18)).enter.deep = s.deep + 1 := enter_deep _
 have T2 := fun W h => Lib.hid (text9_z (rb := rb) (s := s) 2 2 (w := W) h ho h2 rfl)
 have T1 := fun W h => Lib.hid (text9_z (rb := rb) (s := s) 1 1 (w := W) h ho h1 rfl)
 have TE0 := fun W h => Lib.hid (eat9_no (rb := rb) (s := s) (t := [116, 114, 117, 101]) (w := W) h ho hn0)
 have TE1 := fun W h => Lib.hid (eat9_no (rb := rb) (s := s) (t := [102, 97, 108, 115, 101]) (w := W) h ho hn1)
 have TE2 := fun W h => Lib.hid (eat9_no (rb := rb) (s := s) (t := [114, 101, 97, 100]) (w := W) h ho hn2)
 have TA := fun W h => Lib.hid (next9_ok (rb := rb) (s := s) (t := [33]) (w := W) h ho h33)
 have TB := fun W h => Lib.hid (next9_ok (rb := rb) (s := s) (t := [45]) (w := W) h ho h45)
 have TP := fun W h => Lib.hid (eat9_yes (rb := rb) (s := s) (t := [40]) (w := W) h ho h40)
 have TN := fun W h => Lib.hid (node9_n (rb := rb) (s := s.step) (under := u) s.rows.length (Hg.Rd.nd 18) (w := W) h ho1 rfl hu rfl)
 have TQ := fun W h => Lib.hid (enter9_ok (rb := rb) (s := (s.step.node u (Hg.Rd.nd 18))) (w := W) (b := false) h ho2 (by rw [hb]; rfl))
 go_enter Tryz.func111, Tryz.ntmps111
 go_wp2_with (first
  | (go_at_call 106; ((with_reducible refine ((T2 _ hR).out).mono ?_); rintro e w1 ⟨rfl, hR1, hb1⟩))
  | (go_at_call 106; ((with_reducible refine ((T1 _ hR1).out).mono ?_); rintro e w2 ⟨rfl, hR2, hb2⟩))
  | (go_at_call 72; ((with_reducible refine ((TE0 _ hR2).out).mono ?_); rintro e w3 ⟨rfl, hR3, hb3⟩))
  | (go_at_call 72; ((with_reducible refine ((TE1 _ hR3).out).mono ?_); rintro e w4 ⟨rfl, hR4, hb4⟩))
  | (go_at_call 72; ((with_reducible refine ((TE2 _ hR4).out).mono ?_); rintro e w5 ⟨rfl, hR5, hb5⟩))
  | (go_at_call 107; ((with_reducible refine ((TA _ hR5).out).mono ?_); rintro e w6 ⟨rfl, hR6, hb6⟩))
  | (go_at_call 107; ((with_reducible refine ((TB _ hR6).out).mono ?_); rintro e w7 ⟨rfl, hR7, hb7⟩))
  | (go_at_call 72; ((with_reducible refine ((TP _ hR7).out).mono ?_); rintro e w8 ⟨rfl, hR8, hb8⟩))
  | (go_at_call 67; refine ((TN _ hR8).out).mono ?_; rintro e w9 ⟨rfl, hR9, hb9⟩)
  | (go_at_call 139; refine ((TQ _ hR9).out).mono ?_; rintro e w10 ⟨rfl, hR10, hb10⟩; obtain ⟨_, c2, _, _, _⟩ := hR10.cell; have f2 := hR10.frozen 2))
 go_end0
 rw [he]
 exact ⟨rfl, hR10.leave9 (by omega) (by omega), ((((((((hb1).trans hb2).trans hb3).trans hb4).trans hb5).trans hb6).trans hb7).trans hb8).below.trans (hb9.trans ((hb10).setCell (p := ⟨rb, 2, none⟩) (Nat.le_refl _) _))⟩
set_option maxHeartbeats 2000000 in
set_option maxRecDepth 100000 in
theorem expr9_bin_zero (rb : Nat) (s s' : Hg.Rd) (u : Nat) (w : World) (hR : RdAt w rb s) (ho : Okk s) (h2 : s.text 2 = []) (h1 : s.text 1 = []) (hn0 : s.next [116, 114, 117, 101] = false) (hn1 : s.next [102, 97, 108, 115, 101] = false) (hn2 : s.next [114, 101, 97, 100] = false) (h33 : s.next [33] = false) (h45 : s.next [45] = false) (h40 : s.next [40] = true) (hb : (s.step.node u (Hg.Rd.nd 18)).enter.bad = false) (f : Nat) (ih : ExprC f) (s1 s4 : Hg.Rd) (op : Nat) (he1 : Hg.Rd.expr f (s.step.node u (Hg.Rd.nd 18)).enter s.rows.length = some s1)
 (hop : Hg.Rd.opOf (s1.text 4) = op) (hz : op = 0) (he2 : Hg.Rd.expr f (s1.setNum s.rows.length (op : Int)).setBad.step s.rows.length = some s4) (he : s' = (s4.need [41]).leave) (hdp : s.deep ≤ 90) (hf : Fin_ s') (hu : u < s.rows.length) :
 Calls Tryz.prog 111 #[.pointer (some ⟨rb, 0, none⟩), .int .i64 (u : Int)] w fun e w' => e = .returned (.tuple #[]) ∧ RdAt w' rb s' ∧ Below rb w w' := by
 have es1 := (Hg.Rd.expr_es f).1 _ _ _ he1
 have es4 := (Hg.Rd.expr_es f).1 _ _ _ he2
 have esn := Hg.Rd.es_setNum s1 s.rows.length (op : Int)
 have es3 : Hg.Rd.EStep s1 (s1.setNum s.rows.length (op : Int)).setBad.step := (esn.trans (Hg.Rd.es_setBad _)).trans (Hg.Rd.es_step _)
 have g4 : Hg.Rd.Grow s4 s' := by rw [he]; exact (Hg.Rd.grow_need _ _).trans (Hg.Rd.grow_leave _)
 have es0 := Hg.Rd.es_node s.step u (Hg.Rd.nd 18) rfl
 have hgr : Hg.Rd.Grow (s.step.node u (Hg.Rd.nd 18)) s' := by exact (Hg.Rd.grow_enter _).trans (es1.grow.trans (es3.grow.trans (es4.grow.trans g4)))
 have ho1 : Okk s.step := ho.es (Hg.Rd.es_step s) (es0.grow.trans hgr) hf
 have ho2 : Okk (s.step.node u (Hg.Rd.nd 18)) := ho1.es es0 hgr hf
 have ho3 := ho2.enter (by rw [es0.deep]; show s.deep ≤ 999; omega) (es1.grow.trans (es3.grow.trans (es4.grow.trans g4))) hf
 have hd3 := enter_deep_le (s := (s.step.node u (Hg.Rd.nd 18))) hb
 have ho4 : Okk s1 := ho3.es es1 (es3.grow.trans (es4.grow.trans g4)) hf
 have ho5 : Okk (s1.setNum s.rows.length (op : Int)).setBad.step := ho4.es es3 (es4.grow.trans g4) hf
 have ho6 : Okk s4 := ho5.es es4 g4 hf
 have hl1 : s.rows.length < s1.rows.length := by
  have a1 := es1.grow.len
  rw [enter_rows, Hg.Rd.len_node] at a1
  exact Nat.lt_of_lt_of_le (Nat.lt_succ_self _) a1
 have b1 := ho4.fin.at_
 have hdp1 : s1.deep ≤ 90 := by rw [es1.deep]; exact hd3
 have hdp2 : (s4.need [41]).deep = s.deep + 1 := by
  rw [(Hg.Rd.es_need s4 [41]).deep, es4.deep, es3.deep, es1.deep]; exact enter_deep _
 have TX := fun W h => Lib.hid (ih rb _ s.rows.length s1 W he1 h ho3 hd3 (hf.of (es3.grow.trans (es4.grow.trans g4))) (by rw [enter_rows, Hg.Rd.len_node]; exact Nat.lt_succ_self _))
 have TZ := fun W h => Lib.hid (ih rb _ s.rows.length s4 W he2 h ho5 (by rw [es3.deep]; exact hdp1) (hf.of g4) (Nat.lt_of_lt_of_le hl1 es3.grow.len))
 have T4 := fun W h => Lib.hid (text9_z (rb := rb) (s := s1) 4 4 (w := W) h ho4 rfl rfl)
 have TO := Lib.hid (fun W => op9_any (s1.text 4) W)
 have TN2 := fun W h => Lib.hid (need9_ok (rb := rb) (s := s4) (t := [41]) (w := W) h ho6)
 rw [hop] at TO
 have hq : (((op : Nat) : Int) == 0) = true := by simp [hz]
 have T2 := fun W h => Lib.hid (text9_z (rb := rb) (s := s) 2 2 (w := W) h ho h2 rfl)
 have T1 := fun W h => Lib.hid (text9_z (rb := rb) (s := s) 1 1 (w := W) h ho h1 rfl)
 have TE0 := fun W h => Lib.hid (eat9_no (rb := rb) (s := s) (t := [116, 114, 117, 101]) (w := W) h ho hn0)
 have TE1 := fun W h => Lib.hid (eat9_no (rb := rb) (s := s) (t := [102, 97, 108, 115, 101]) (w := W) h ho hn1)
 have TE2 := fun W h => Lib.hid (eat9_no (rb := rb) (s := s) (t := [114, 101, 97, 100]) (w := W) h ho hn2)
 have TA := fun W h => Lib.hid (next9_ok (rb := rb) (s := s) (t := [33]) (w := W) h ho h33)
 have TB := fun W h => Lib.hid (next9_ok (rb := rb) (s := s) (t := [45]) (w := W) h ho h45)
 have TP := fun W h => Lib.hid (eat9_yes (rb := rb) (s := s) (t := [40]) (w := W) h ho h40)
 have TN := fun W h => Lib.hid (node9_n (rb := rb) (s := s.step) (under := u) s.rows.length (Hg.Rd.nd 18) (w := W) h ho1 rfl hu rfl)
 have TQ := fun W h => Lib.hid (enter9_ok (rb := rb) (s := (s.step.node u (Hg.Rd.nd 18))) (w := W) (b := true) h ho2 (by rw [hb]; rfl))
 generalize s1.text 4 = t4 at *
 have hi1 : (0 : Int) ≤ (s.rows.length : Int) := by omega
 have hi2 : (s.rows.length : Int) < (s1.rows.length : Int) := by omega
 clear hz hop
 go_enter Tryz.func111, Tryz.ntmps111
 go_wp2_with (first
  | (go_at_call 106; ((with_reducible refine ((T2 _ hR).out).mono ?_); rintro e w1 ⟨rfl, hR1, hb1⟩))
  | (go_at_call 106; ((with_reducible refine ((T1 _ hR1).out).mono ?_); rintro e w2 ⟨rfl, hR2, hb2⟩))
  | (go_at_call 72; ((with_reducible refine ((TE0 _ hR2).out).mono ?_); rintro e w3 ⟨rfl, hR3, hb3⟩))
  | (go_at_call 72; ((with_reducible refine ((TE1 _ hR3).out).mono ?_); rintro e w4 ⟨rfl, hR4, hb4⟩))
  | (go_at_call 72; ((with_reducible refine ((TE2 _ hR4).out).mono ?_); rintro e w5 ⟨rfl, hR5, hb5⟩))
  | (go_at_call 107; ((with_reducible refine ((TA _ hR5).out).mono ?_); rintro e w6 ⟨rfl, hR6, hb6⟩))
  | (go_at_call 107; ((with_reducible refine ((TB _ hR6).out).mono ?_); rintro e w7 ⟨rfl, hR7, hb7⟩))
  | (go_at_call 72; ((with_reducible refine ((TP _ hR7).out).mono ?_); rintro e w8 ⟨rfl, hR8, hb8⟩))
  | (go_at_call 67; refine ((TN _ hR8).out).mono ?_; rintro e w9 ⟨rfl, hR9, hb9⟩)
  | (go_at_call 139; refine ((TQ _ hR9).out).mono ?_; rintro e w10 ⟨rfl, hR10, hb10⟩)
  | (go_at_call 111; ((with_reducible refine ((TX _ hR10).out).mono ?_); rintro e w11 ⟨rfl, hR11, hb11⟩))
  | (go_at_call 106; ((with_reducible refine ((T4 _ hR11).out).mono ?_); rintro e w12 ⟨rfl, hR12, hb12⟩))
  | (go_at_call 140; refine (TO.out _).mono ?_; rintro e w13 ⟨rfl, hb13⟩; have hR13 := hR12.below hb13 (Nat.le_refl _); obtain ⟨g, c, c4, hg1, hg2, _, hcs, hfz, hset⟩ := hR13.forCell (k := s.rows.length) (List.getElem?_eq_getElem hl1); obtain ⟨u5, hc5⟩ := hcs 3 (by omega); have hf5 := hfz (s.rows.length * 7 + 3); obtain ⟨c1, _, c3, _, _⟩ := hR13.cell; have f1 := hR13.frozen 1; have f3 := hR13.frozen 3; have hne1 : ¬ rb = g := (by omega); have hne2 : ¬ g = rb := (by omega); have HS := Lib.hid hset; clear hcs hfz hset)
  | (go_at_call 111; rw [show s.rows.length * 7 + 1 + 2 = s.rows.length * 7 + 3 by omega]; obtain ⟨r1, r2⟩ := HS.out 3 (.int .i64 (op : Int)) (fun x => { x with node := { x.node with num := (op : Int) } }) (by omega) (fun _ _ => rfl) (fun _ => rfl); ((with_reducible refine ((TZ _ (r1.setBad.setAt (s1.at_ + 1))).out).mono ?_); rintro e w14 ⟨rfl, hR14, hb14⟩))
  | (go_at_call 68; refine ((TN2 _ hR14).out).mono ?_; rintro e w15 ⟨rfl, hR15, hb15⟩; obtain ⟨_, c2, _, _, _⟩ := hR15.cell; have f2 := hR15.frozen 2))
 go_end0
 rw [he]
 exact ⟨rfl, hR15.leave9 (by omega) (by omega), ((((((((hb1).trans hb2).trans hb3).trans hb4).trans hb5).trans hb6).trans hb7).trans hb8).below.trans (hb9.trans (hb10.trans (hb11.trans (hb12.below.trans ((hb13.mono (Nat.le_of_lt hR12.lt)).trans (((r2.setCell (p := ⟨rb, 3, none⟩) (Nat.le_refl _) _).setCell (p := ⟨rb, 1, none⟩) (Nat.le_refl _) _).trans (hb14.trans (hb15.below.setCell (p := ⟨rb, 2, none⟩) (Nat.le_refl _) _))))))))⟩
set_option maxHeartbeats 2000000 in
set_option maxRecDepth 100000 in
theorem expr9_bin_ok (rb : Nat) (s s' : Hg.Rd) (u : Nat) (w : World) (hR : RdAt w rb s) (ho : Okk s) (h2 : s.text 2 = []) (h1 : s.text 1 = []) (hn0 : s.next [116, 114, 117, 101] = false) (hn1 : s.next [102, 97, 108, 115, 101] = false) (hn2 : s.next [114, 101, 97, 100] = false) (h33 : s.next [33] = false) (h45 : s.next [45] = false) (h40 : s.next [40] = true) (hb : (s.step.node u (Hg.Rd.nd 18)).enter.bad = false) (f : Nat) (ih : ExprC f) (s1 s4 : Hg.Rd) (op : Nat) (he1 : Hg.Rd.expr f (s.step.node u (Hg.Rd.nd 18)).enter s.rows.length = some s1)
 (hop : Hg.Rd.opOf (s1.text 4) = op) (hz : op ≠ 0) (he2 : Hg.Rd.expr f (s1.setNum s.rows.length (op : Int)).step s.rows.length = some s4) (he : s' = (s4.need [41]).leave) (hdp : s.deep ≤ 90) (hf : Fin_ s') (hu : u < s.rows.length) :
 Calls Tryz.prog 111 #[.pointer (some ⟨rb, 0, none⟩), .int .i64 (u : Int)] w fun e w' => e = .returned (.tuple #[]) ∧ RdAt w' rb s' ∧ Below rb w w' := by
 have es1 := (Hg.Rd.expr_es f).1 _ _ _ he1
 have es4 := (Hg.Rd.expr_es f).1 _ _ _ he2
 have esn := Hg.Rd.es_setNum s1 s.rows.length (op : Int)
 have es3 : Hg.Rd.EStep s1 (s1.setNum s.rows.length (op : Int)).step := esn.trans (Hg.Rd.es_step _)
 have g4 : Hg.Rd.Grow s4 s' := by rw [he]; exact (Hg.Rd.grow_need _ _).trans (Hg.Rd.grow_leave _)
 have es0 := Hg.Rd.es_node s.step u (Hg.Rd.nd 18) rfl
 have hgr : Hg.Rd.Grow (s.step.node u (Hg.Rd.nd 18)) s' := by exact (Hg.Rd.grow_enter _).trans (es1.grow.trans (es3.grow.trans (es4.grow.trans g4)))
 have ho1 : Okk s.step := ho.es (Hg.Rd.es_step s) (es0.grow.trans hgr) hf
 have ho2 : Okk (s.step.node u (Hg.Rd.nd 18)) := ho1.es es0 hgr hf
 have ho3 := ho2.enter (by rw [es0.deep]; show s.deep ≤ 999; omega) (es1.grow.trans (es3.grow.trans (es4.grow.trans g4))) hf
 have hd3 := enter_deep_le (s := (s.step.node u (Hg.Rd.nd 18))) hb
 have ho4 : Okk s1 := ho3.es es1 (es3.grow.trans (es4.grow.trans g4)) hf
 have ho5 : Okk (s1.setNum s.rows.length (op : Int)).step := ho4.es es3 (es4.grow.trans g4) hf
 have ho6 : Okk s4 := ho5.es es4 g4 hf
 have hl1 : s.rows.length < s1.rows.length := by
  have a1 := es1.grow.len
  rw [enter_rows, Hg.Rd.len_node] at a1
  exact Nat.lt_of_lt_of_le (Nat.lt_succ_self _) a1
 have b1 := ho4.fin.at_
 have hdp1 : s1.deep ≤ 90 := by rw [es1.deep]; exact hd3
 have hdp2 : (s4.need [41]).deep = s.deep + 1 := by
  rw [(Hg.Rd.es_need s4 [41]).deep, es4.deep, es3.deep, es1.deep]; exact enter_deep _
 have TX := fun W h => Lib.hid (ih rb _ s.rows.length s1 W he1 h ho3 hd3 (hf.of (es3.grow.trans (es4.grow.trans g4))) (by rw [enter_rows, Hg.Rd.len_node]; exact Nat.lt_succ_self _))
 have TZ := fun W h => Lib.hid (ih rb _ s.rows.length s4 W he2 h ho5 (by rw [es3.deep]; exact hdp1) (hf.of g4) (Nat.lt_of_lt_of_le hl1 es3.grow.len))
 have T4 := fun W h => Lib.hid (text9_z (rb := rb) (s := s1) 4 4 (w := W) h ho4 rfl rfl)
 have TO := Lib.hid (fun W => op9_any (s1.text 4) W)
 have TN2 := fun W h => Lib.hid (need9_ok (rb := rb) (s := s4) (t := [41]) (w := W) h ho6)
 rw [hop] at TO
 have hq : (((op : Nat) : Int) == 0) = false := by simp [hz]
 have T2 := fun W h => Lib.hid (text9_z (rb := rb) (s := s) 2 2 (w := W) h ho h2 rfl)
 have T1 := fun W h => Lib.hid (text9_z (rb := rb) (s := s) 1 1 (w := W) h ho h1 rfl)
 have TE0 := fun W h => Lib.hid (eat9_no (rb := rb) (s := s) (t := [116, 114, 117, 101]) (w := W) h ho hn0)
 have TE1 := fun W h => Lib.hid (eat9_no (rb := rb) (s := s) (t := [102, 97, 108, 115, 101]) (w := W) h ho hn1)
 have TE2 := fun W h => Lib.hid (eat9_no (rb := rb) (s := s) (t := [114, 101, 97, 100]) (w := W) h ho hn2)
 have TA := fun W h => Lib.hid (next9_ok (rb := rb) (s := s) (t := [33]) (w := W) h ho h33)
 have TB := fun W h => Lib.hid (next9_ok (rb := rb) (s := s) (t := [45]) (w := W) h ho h45)
 have TP := fun W h => Lib.hid (eat9_yes (rb := rb) (s := s) (t := [40]) (w := W) h ho h40)
 have TN := fun W h => Lib.hid (node9_n (rb := rb) (s := s.step) (under := u) s.rows.length (Hg.Rd.nd 18) (w := W) h ho1 rfl hu rfl)
 have TQ := fun W h => Lib.hid (enter9_ok (rb := rb) (s := (s.step.node u (Hg.Rd.nd 18))) (w := W) (b := true) h ho2 (by rw [hb]; rfl))
 generalize s1.text 4 = t4 at *
 have hi1 : (0 : Int) ≤ (s.rows.length : Int) := by omega
 have hi2 : (s.rows.length : Int) < (s1.rows.length : Int) := by omega
 clear hz hop
 go_enter Tryz.func111, Tryz.ntmps111
 go_wp2_with (first
  | (go_at_call 106; ((with_reducible refine ((T2 _ hR).out).mono ?_); rintro e w1 ⟨rfl, hR1, hb1⟩))
  | (go_at_call 106; ((with_reducible refine ((T1 _ hR1).out).mono ?_); rintro e w2 ⟨rfl, hR2, hb2⟩))
  | (go_at_call 72; ((with_reducible refine ((TE0 _ hR2).out).mono ?_); rintro e w3 ⟨rfl, hR3, hb3⟩))
  | (go_at_call 72; ((with_reducible refine ((TE1 _ hR3).out).mono ?_); rintro e w4 ⟨rfl, hR4, hb4⟩))
  | (go_at_call 72; ((with_reducible refine ((TE2 _ hR4).out).mono ?_); rintro e w5 ⟨rfl, hR5, hb5⟩))
  | (go_at_call 107; ((with_reducible refine ((TA _ hR5).out).mono ?_); rintro e w6 ⟨rfl, hR6, hb6⟩))
  | (go_at_call 107; ((with_reducible refine ((TB _ hR6).out).mono ?_); rintro e w7 ⟨rfl, hR7, hb7⟩))
  | (go_at_call 72; ((with_reducible refine ((TP _ hR7).out).mono ?_); rintro e w8 ⟨rfl, hR8, hb8⟩))
  | (go_at_call 67; refine ((TN _ hR8).out).mono ?_; rintro e w9 ⟨rfl, hR9, hb9⟩)
  | (go_at_call 139; refine ((TQ _ hR9).out).mono ?_; rintro e w10 ⟨rfl, hR10, hb10⟩)
  | (go_at_call 111; ((with_reducible refine ((TX _ hR10).out).mono ?_); rintro e w11 ⟨rfl, hR11, hb11⟩))
  | (go_at_call 106; ((with_reducible refine ((T4 _ hR11).out).mono ?_); rintro e w12 ⟨rfl, hR12, hb12⟩))
  | (go_at_call 140; refine (TO.out _).mono ?_; rintro e w13 ⟨rfl, hb13⟩; have hR13 := hR12.below hb13 (Nat.le_refl _); obtain ⟨g, c, c4, hg1, hg2, _, hcs, hfz, hset⟩ := hR13.forCell (k := s.rows.length) (List.getElem?_eq_getElem hl1); obtain ⟨u5, hc5⟩ := hcs 3 (by omega); have hf5 := hfz (s.rows.length * 7 + 3); obtain ⟨c1, _, c3, _, _⟩ := hR13.cell; have f1 := hR13.frozen 1; have f3 := hR13.frozen 3; have hne1 : ¬ rb = g := (by omega); have hne2 : ¬ g = rb := (by omega); have HS := Lib.hid hset; clear hcs hfz hset)
  | (go_at_call 111; rw [show s.rows.length * 7 + 1 + 2 = s.rows.length * 7 + 3 by omega]; obtain ⟨r1, r2⟩ := HS.out 3 (.int .i64 (op : Int)) (fun x => { x with node := { x.node with num := (op : Int) } }) (by omega) (fun _ _ => rfl) (fun _ => rfl); ((with_reducible refine ((TZ _ (r1.setAt (s1.at_ + 1))).out).mono ?_); rintro e w14 ⟨rfl, hR14, hb14⟩))
  | (go_at_call 68; refine ((TN2 _ hR14).out).mono ?_; rintro e w15 ⟨rfl, hR15, hb15⟩; obtain ⟨_, c2, _, _, _⟩ := hR15.cell; have f2 := hR15.frozen 2))
 go_end0
 rw [he]
 exact ⟨rfl, hR15.leave9 (by omega) (by omega), ((((((((hb1).trans hb2).trans hb3).trans hb4).trans hb5).trans hb6).trans hb7).trans hb8).below.trans (hb9.trans (hb10.trans (hb11.trans (hb12.below.trans ((hb13.mono (Nat.le_of_lt hR12.lt)).trans ((r2.setCell (p := ⟨rb, 1, none⟩) (Nat.le_refl _) _).trans (hb14.trans (hb15.below.setCell (p := ⟨rb, 2, none⟩) (Nat.le_refl _) _))))))))⟩
end Go.Proofs.YtihmbbkppkgcmaaGreatDoor
