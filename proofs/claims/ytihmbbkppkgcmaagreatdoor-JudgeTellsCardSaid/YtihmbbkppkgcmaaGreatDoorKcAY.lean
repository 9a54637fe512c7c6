/-
  Part of a proof: contracts of functions that the claim reaches, and plain lemmas.
-/
import Derived.Test.YtihmbbkppkgcmaaGreatDoorKcAS
import Derived.Test.YtihmbbkppkgcmaaGreatDoorKcAI
import Derived.Deep.Cut
import Derived.Deep.CutBlock
import Derived.Test.YtihmbbkppkgcmaaGreatDoorKcAV
import Derived.Maps.RangeWalk
set_option linter.all false
namespace Go.Proofs.YtihmbbkppkgcmaaGreatDoor
open Go.RowKit
theorem strInfo : (Tryz.prog.info? 9).map (fun i => (i.zero, i.size, i.bytes)) = some (some (.string ⟨#[]⟩), 1, 16) := by kernel_rfl
theorem below_cell {B : Nat} {w w' : World} (h : Below B w w') (hB : w.heap.size ≤ B) {p : Addr} {v : Value} (hc : w.cell? p = some v) : w'.cell? p = some v :=
 (h.cell (Nat.lt_of_lt_of_le (World.block_lt_of_cell? w p hc) hB)).trans hc
@[simp, go_sem] theorem bytes_append (a b : List UInt8) : ByteArray.mk a.toArray ++ ByteArray.mk b.toArray = ByteArray.mk (a ++ b).toArray := by
 apply ByteArray.ext
 rw [ByteArray.data_append]
 simp
theorem idAt_get {s : Hg.Rd} {k : Nat} {r : Hg.Row} (h : s.rows[k]? = some r) : s.idAt k = r.id := by simp [Hg.Rd.idAt, h]
def ArgsR (rb n : Nat) (sE : Hg.Rd) (f : Nat) (w0 : World) (k : Nat) (p : Value) (wr : World) : Prop :=
 ∃ (b : Bool) (t : Hg.Rd), p = .bool b ∧ Hg.Rd.args k b t n = some sE ∧ RdAt wr rb t ∧ Okk t ∧ t.deep ≤ 90 ∧ n < t.rows.length ∧ Below rb w0 wr ∧ k ≤ f
set_option maxHeartbeats 2000000 in
set_option maxRecDepth 100000 in
theorem call9_any (f : Nat) (ihE : ∀ g, g ≤ f → ExprC g) : CallC (f + 1) := by
 intro rb s u m s' w hcall hR ho hdp hf hu hm
 have hbook : ∃ s3 nm cid s4, ((s.node u (Hg.Rd.nd 19)).need [46]).name = s3 ∧ ((s.node u (Hg.Rd.nd 19)).need [46]).text 1 = nm ∧ s3.idAt s.rows.length = cid ∧ { s3 with calls := s3.calls ++ [cid], wants := s3.wants ++ [m ++ 32 :: nm] } = s4 ∧
  (if s4.enter.bad = true then some s4.enter.leave else (Hg.Rd.args f true (s4.enter.need [40]) s.rows.length).map Hg.Rd.leave) = some s' := by
  refine ⟨_, _, _, _, rfl, rfl, rfl, rfl, ?_⟩
  rw [← hcall, Hg.Rd.call]
  simp only [List.append_assoc, List.cons_append, List.nil_append]
 obtain ⟨s3, nm, cid, s4, e3, enm, ecid, e4, he⟩ := hbook
 clear hcall
 have hes : Hg.Rd.EStep s s4 := by
  subst e4 ecid e3 enm
  have hrn : ((s.node u (Hg.Rd.nd 19)).need [46]).name.rows = (s.node u (Hg.Rd.nd 19)).rows := (Hg.Rd.calls_name _).2.2.trans (Hg.Rd.calls_need _ _).2.2
  have hid : ((s.node u (Hg.Rd.nd 19)).need [46]).name.idAt s.rows.length = s.rows.length + 1 := (Hg.Rd.idAt_rows hrn _).trans (Hg.Rd.idAt_node s u _)
  have A : Hg.Rd.EStep s ((s.node u (Hg.Rd.nd 19)).need [46]).name := ((Hg.Rd.es_node s u _ (Hg.Rd.kids_nd _)).trans (Hg.Rd.es_need _ _)).trans (Hg.Rd.es_name _)
  have hl : ((s.node u (Hg.Rd.nd 19)).need [46]).name.rows.length = s.rows.length + 1 := by rw [hrn, Hg.Rd.len_node]
  exact Hg.Rd.es_mid A (by omega) ((Hg.Rd.calls_name _).1.trans (Hg.Rd.calls_need _ _).1) ((Hg.Rd.calls_name _).2.1.trans (Hg.Rd.calls_need _ _).2.1) (by rw [hid, hl]; omega) (Hg.Rd.EStep.refl _)
 have g34 : Hg.Rd.Grow s3 s4 := by rw [← e4]; exact Hg.Rd.grow_same rfl (Nat.le_refl _) id rfl
 have g4 : Hg.Rd.Grow s4 s' := by
  by_cases hb : s4.enter.bad = true
  ·
   rw [if_pos hb] at he
   injection he with he
   rw [← he]
   exact (Hg.Rd.grow_enter _).trans (Hg.Rd.grow_leave _)
  ·
   rw [if_neg hb] at he
   cases ha : Hg.Rd.args f true (s4.enter.need [40]) s.rows.length with
   | none => rw [ha] at he; simp at he
   | some s5 =>
     rw [ha] at he
     injection he with he
     rw [← he]
     exact (Hg.Rd.grow_enter _).trans ((Hg.Rd.grow_need _ _).trans ((((Hg.Rd.expr_es f).2.2 _ _ _ _ ha).grow).trans (Hg.Rd.grow_leave _)))
 have ho4 : Okk s4 := ho.es hes g4 hf
 obtain ⟨j0, hj, hj0, hj1, hj2⟩ := info_parts idInfo
 obtain ⟨k0, hk, hk0, hk1, hk2⟩ := info_parts strInfo
 have es1 := Hg.Rd.es_node s u (Hg.Rd.nd 19) rfl
 have es2 := Hg.Rd.es_need (s.node u (Hg.Rd.nd 19)) [46]
 have es3 := Hg.Rd.es_name ((s.node u (Hg.Rd.nd 19)).need [46])
 rw [e3] at es3
 have ho3 : Okk s3 := by
  have A := (es1.trans es2).trans es3
  exact ho.es A (g34.trans g4) hf
 have ho1 : Okk (s.node u (Hg.Rd.nd 19)) := ho.es es1 (es2.grow.trans es3.grow) ho3.fin
 have ho2 : Okk ((s.node u (Hg.Rd.nd 19)).need [46]) := ho1.es es2 es3.grow ho3.fin
 have hl3 : s.rows.length < s3.rows.length := by
  have a1 := es2.grow.len
  have a2 := es3.grow.len
  rw [Hg.Rd.len_node] at a1
  omega
 have hnm : nm.length ≤ 1000000 := by rw [← enm]; exact ho2.text 1
 have TN := fun W h => Lib.hid (node9_n (rb := rb) (s := s) (under := u) s.rows.length (Hg.Rd.nd 19) (w := W) h ho rfl hu rfl)
 have TD := fun W h => Lib.hid (need9_ok (rb := rb) (s := s.node u (Hg.Rd.nd 19)) (t := [46]) (w := W) h ho1)
 have TM := fun W h => Lib.hid (name9_ok (rb := rb) (s := (s.node u (Hg.Rd.nd 19)).need [46]) (w := W) h ho2)
 rw [e3, enm] at TM
 go_enter Tryz.func137, Tryz.ntmps137
 go_upto_region 3 with (first
  | (go_at_call 67; refine ((TN _ hR).out).mono ?_; rintro e w1 ⟨rfl, hR1, hb1⟩)
  | (go_at_call 68; refine ((TD _ hR1).out).mono ?_; rintro e w2 ⟨rfl, hR2, hb2⟩)
  | (go_at_call 69; refine ((TM _ hR2).out).mono ?_; rintro e w3 ⟨rfl, hR3, hb3⟩))
 go_cut [] from 17 (fun wx => RdAt wx rb s4 ∧ Below rb w3 wx)
 case first =>
  obtain ⟨a1, c1, a2, c2, k9, k10, hown1, hrb1, hrb2, hneR, hstep⟩ := hR3.more_book
  obtain ⟨g, c, k4, hg1, hg2, kid, _, _, _⟩ := hR3.forCell (k := s.rows.length) (List.getElem?_eq_getElem hl3)
  rw [← idAt_get (List.getElem?_eq_getElem hl3), ecid] at kid
  have HM0 := Lib.hid (show (some rb ≠ Value.ownBlock (.slice a1 s3.calls.length c1)) ∧ (some rb ≠ Value.ownBlock (.slice a2 s3.wants.length c2)) from ⟨fun e => absurd (hrb1 rb e.symm) (Nat.lt_irrefl _), fun e => absurd (hrb2 rb e.symm) (Nat.lt_irrefl _)⟩)
  have HM1 := HM0
  have HM2 := HM0
  have HM3 := Lib.hid (show (some g ≠ Value.ownBlock (.slice a1 s3.calls.length c1)) ∧ (some g ≠ Value.ownBlock (.slice a2 s3.wants.length c2)) from ⟨(hneR g _ _ k4).1.symm, (hneR g _ _ k4).2.symm⟩)
  have HF := Lib.hid (show ∀ b, w3.heap.size ≤ b → some b ≠ Value.ownBlock (.slice a1 s3.calls.length c1) from fun b hb e => absurd (hown1.lt b e.symm).2 (by omega))
  have HO := Lib.hid hown1
  have HSTEP := Lib.hid hstep
  have hlt := hR3.lt
  have f9 := hR3.frozen 9
  have f10 := hR3.frozen 10
  have hHeld : (fun w' => w'.cell? ⟨rb, 4, none⟩ = some (.slice (some ⟨g, 0, none⟩) s3.rows.length c) ∧ w'.cell? ⟨rb, 9, none⟩ = some (.slice a1 s3.calls.length c1) ∧ w'.cell? ⟨rb, 10, none⟩ = some (.slice a2 s3.wants.length c2) ∧ w'.cell? ⟨g, s.rows.length * 7, none⟩ = some (.int .u64 (cid : Int))) (World.drew w3) := ⟨k4, k9, k10, kid⟩
  have hi1 : (0 : Int) ≤ (s.rows.length : Int) := by omega
  have hi2 : (s.rows.length : Int) < (s3.rows.length : Int) := by omega
  have hsm := ho3.inv.calls
  have hfr := ho3.fin.rows
  have hsw : s3.wants.length ≤ 10000000 := by rw [ho3.inv.wants]; omega
  have hcat1 : ¬ 9223372036854775807 < m.length + 1 := by omega
  have hcat2 : ¬ 9223372036854775807 < m.length + 1 + nm.length := by omega
  have hcat3 : ¬ 9223372036854775807 < m.length + (nm.length + 1) := by omega
  clear hrb1 hrb2 hneR hstep hown1
  refine wp_region_any (by kernel_rfl) ?_
  refine wpAny_take (i := 1) (v := ?_) rfl (by kernel_rfl) (by kernel_rfl) (by kernel_rfl) (fun _ _ _ h => h) (Or.inl ⟨by rfl, ?_⟩) ?_
  rotate_left
  ·
   (intro w'; go_simp; try with_reducible rfl)
  try simp only [Act.put, sA, sB, sC]
  refine wpAny_of_T (S := fun w' => w'.cell? ⟨rb, 4, none⟩ = some (.slice (some ⟨g, 0, none⟩) s3.rows.length c) ∧ w'.cell? ⟨rb, 9, none⟩ = some (.slice a1 s3.calls.length c1) ∧ w'.cell? ⟨rb, 10, none⟩ = some (.slice a2 s3.wants.length c2) ∧ w'.cell? ⟨g, s.rows.length * 7, none⟩ = some (.int .u64 (cid : Int))) (n := 26) _ _ _ _ ?_
  refine tx [1] 0 ?_ rfl (by kernel_rfl) (fun _ _ _ h => h) ‹_› ?_ ?_ (tx [1] 2 ?_ rfl (by kernel_rfl) (fun _ _ _ h => h) ‹_› ?_ ?_ (tx [1] 3 ?_ rfl (by kernel_rfl) (fun _ _ _ h => h) ‹_› ?_ ?_ (tx [1] 4 ?_ rfl (by kernel_rfl) (fun _ _ _ h => h) ‹_› ?_ ?_ (tx [1] 5 ?_ rfl (by kernel_rfl) (fun _ _ _ h => h) ‹_› ?_ ?_ (tx [1] 6 ?_ rfl (by kernel_rfl) (fun _ _ _ h => h) ‹_› ?_ ?_ (tx [1] 7 ?_ rfl (by kernel_rfl) (fun _ _ _ h => h) ‹_› ?_ ?_ (tx [1] 8 ?_ rfl (by kernel_rfl) (fun _ _ _ h => h) ‹_› ?_ ?_ (tx [1] 9 ?_ rfl (by kernel_rfl) (fun _ _ _ h => h) ‹_› ?_ ?_ (tx [1] 10 ?_ rfl (by kernel_rfl) (fun _ _ _ h => h) ‹_› ?_ ?_ (tx [1] 11 ?_ rfl (by kernel_rfl) (fun _ _ _ h => h) ‹_› ?_ ?_ (tx [1] 12 ?_ rfl (by kernel_rfl) (fun _ _ _ h => h) ‹_› ?_ ?_ (tx [1] 13 ?_ rfl (by kernel_rfl) (fun _ _ _ h => h) ‹_› ?_ ?_ (tx [1] 16 ?_ rfl (by kernel_rfl) (fun _ _ _ h => h) ‹_› ?_ ?_ (tx [1] 17 ?_ rfl (by kernel_rfl) (fun _ _ _ h => h) ‹_› ?_ ?_ (tx [1] 18 ?_ rfl (by kernel_rfl) (fun _ _ _ h => h) ‹_› ?_ ?_ (tx [1] 19 ?_ rfl (by kernel_rfl) (fun _ _ _ h => h) ‹_› ?_ ?_ (tx [1] 20 ?_ rfl (by kernel_rfl) (fun _ _ _ h => h) ‹_› ?_ ?_ (tx [1] 21 ?_ rfl (by kernel_rfl) (fun _ _ _ h => h) ‹_› ?_ ?_ (tx [1] 22 ?_ rfl (by kernel_rfl) (fun _ _ _ h => h) ‹_› ?_ ?_ (tx [1] 23 ?_ rfl (by kernel_rfl) (fun _ _ _ h => h) ‹_› ?_ ?_ ?_))))))))))))))))))))
  all_goals try (first | rfl | ((try simp only [Act.put, sA, sB, sC]); intro w' hSw; (try dsimp only at hSw); go_simp; try with_reducible rfl))
  try simp only [Act.put, sA, sB, sC]
  refine wpAnyT_two (i := 14) (j := 24) rfl rfl (by kernel_rfl) (fun K hK => ?_) (fun K hK => ?_)
  ·
   go_simp
   generalize hWa : World.drew (World.alloc _ _) = Wa
   have hTa : ∀ j u, [idV cid][j]? = some u → Wa.cell? ((⟨w3.heap.size, 0, none⟩ : Addr).add j) = some u := by rw [← hWa]; exact cells_new _ _ _
   have hBa : Below w3.heap.size w3 Wa := by rw [← hWa]; exact ((Below.refl _ _).alloc (Nat.le_refl _) _).drew
   clear hWa
   refine hK.out _ _ (⟨below_cell hBa (Nat.le_refl _) hHeld.1, below_cell hBa (Nat.le_refl _) hHeld.2.1, below_cell hBa (Nat.le_refl _) hHeld.2.2.1, below_cell hBa (Nat.le_refl _) hHeld.2.2.2⟩) (fun hHeld => ?_)
   clear hK K
   try simp only [Act.put, sA, sB, sC]
   refine wpAnyT_two (i := 15) (j := 24) rfl rfl (by kernel_rfl) (fun K hK => ?_) (fun K hK => ?_)
   ·
    have hB0 : Below w3.heap.size w3 Wa := ((Below.refl w3.heap.size w3)).trans (hBa.mono (Nat.le_refl _))
    refine step_append_own rfl (.tmp 22) (.tmp 31) _ rfl (rb + 1) 28 j0 _ 1 8 Tryz.underlying29 hj hj0 hj1 hj2 rfl (by decide) _ _ _ rfl (own_below HO.out hB0 (Nat.le_refl _)) ⟨_, 0, none⟩ 1 1 [idV cid] rfl rfl ?_ (by intro u hu; simp only [List.mem_singleton] at hu; subst hu; rfl) ?_ ?_ ?_ ?_
    ·
     exact hTa
    ·
     unfold maxLen; omega
    ·
     omega
    ·
     have := hB0.size; omega
    intro v1 Wb ownb gb atb
    have hST := HSTEP.out Wa Wb v1 cid hB0 ownb gb atb
    refine hK.out _ _ (⟨gb.cell hHeld.1 HM0.out.1, gb.cell hHeld.2.1 HM1.out.1, gb.cell hHeld.2.2.1 HM2.out.1, gb.cell hHeld.2.2.2 HM3.out.1⟩) (fun hHeld => ?_)
    clear hK K
    try simp only [Act.put, sA, sB, sC]
    refine wpAnyT_one (i := 24) rfl (by kernel_rfl) (fun K hK => ?_)
    go_simp
    generalize hWc : World.alloc _ _ = Wc
    have hTc : ∀ j u, [strV (m ++ 32 :: nm)][j]? = some u → Wc.cell? ((⟨Wb.heap.size, 0, none⟩ : Addr).add j) = some u := by rw [← hWc]; exact cells_new _ _ _
    have hBc : Below Wb.heap.size Wb Wc := by rw [← hWc]; exact (Below.refl _ _).alloc (Nat.le_refl _) _
    clear hWc
    refine hK.out _ _ (⟨below_cell hBc (Nat.le_refl _) hHeld.1, below_cell hBc (Nat.le_refl _) hHeld.2.1, below_cell hBc (Nat.le_refl _) hHeld.2.2.1, below_cell hBc (Nat.le_refl _) hHeld.2.2.2⟩) (fun hHeld => ?_)
    clear hK K
    try simp only [Act.put, sA, sB, sC]
    refine wpAnyT_one (i := 25) rfl (by kernel_rfl) (fun K hK => ?_)
    have hB2 := hBc
    refine step_append_own rfl (.tmp 36) (.tmp 41) _ rfl (rb + 1) 9 k0 _ 1 16 Tryz.underlying58 hk hk0 hk1 hk2 rfl (by decide) _ _ _ rfl (hST.1 _ hB2) ⟨_, 0, none⟩ 1 1 [strV (m ++ 32 :: nm)] rfl rfl ?_ (by intro u hu; simp only [List.mem_singleton] at hu; subst hu; rfl) ?_ ?_ ?_ ?_
    ·
     exact hTc
    ·
     unfold maxLen; omega
    ·
     omega
    ·
     have := hB0.size; have := gb.size; have := hB2.size; omega
    intro v2 Wd ownd gd atd
    have hFIN := hST.2 Wc Wd v2 (m ++ 32 :: nm) hB2 ownd gd atd
    refine hK.out _ _ (⟨gd.cell hHeld.1 HM0.out.2, gd.cell hHeld.2.1 HM1.out.2, gd.cell hHeld.2.2.1 HM2.out.2, gd.cell hHeld.2.2.2 HM3.out.2⟩) (fun hHeld => ?_)
    clear hK K
    try simp only [Act.put, sA, sB, sC]
    refine wpAnyT_tail (by kernel_rfl) ?_
    simp only [List.drop_succ_cons, List.drop_zero]
    have hrbk : Wd.heap[rb]? = w3.heap[rb]? := (gd.block rb (by have := hB0.size; have := gb.size; have := hB2.size; omega) HM0.out.2).trans ((hB2.block rb (by have := hB0.size; have := gb.size; omega)).trans ((gb.block rb (by have := hB0.size; omega) HM0.out.1).trans (hB0.block rb hlt)))
    have g9 := (World.frozen?_of_block (a := ⟨rb, 9, none⟩) hrbk).trans f9
    have g10 := (World.frozen?_of_block (a := ⟨rb, 10, none⟩) hrbk).trans f10
    have FIN := Lib.hid hFIN
    obtain ⟨d4, d9, d10, dg⟩ := hHeld
    obtain ⟨q1, z1, rfl⟩ := ownsRow_succ ownb
    obtain ⟨q2, z2, rfl⟩ := ownsRow_succ ownd
    clear hrbk hFIN hST gd gb hB2 hB0 ownd ownb atd atb f9 f10 HO HSTEP HF k4 k9 k10 kid hTa hTc
    go_wp2_with fail
    go_meet
    case rel => exact ⟨(by rw [← e4]; exact FIN.out.1), FIN.out.2⟩
   ·
    go_simp
    generalize hWc : World.alloc _ _ = Wc
    have hTc : ∀ j u, [strV (m ++ 32 :: nm)][j]? = some u → Wc.cell? ((⟨Wa.heap.size, 0, none⟩ : Addr).add j) = some u := by rw [← hWc]; exact cells_new _ _ _
    have hBc : Below Wa.heap.size Wa Wc := by rw [← hWc]; exact (Below.refl _ _).alloc (Nat.le_refl _) _
    clear hWc
    refine hK.out _ _ (⟨below_cell hBc (Nat.le_refl _) hHeld.1, below_cell hBc (Nat.le_refl _) hHeld.2.1, below_cell hBc (Nat.le_refl _) hHeld.2.2.1, below_cell hBc (Nat.le_refl _) hHeld.2.2.2⟩) (fun hHeld => ?_)
    clear hK K
    try simp only [Act.put, sA, sB, sC]
    refine wpAnyT_one (i := 15) rfl (by kernel_rfl) (fun K hK => ?_)
    have hB0 : Below w3.heap.size w3 Wc := (((Below.refl w3.heap.size w3)).trans (hBa.mono (Nat.le_refl _))).trans (hBc.mono (Nat.le_trans (Nat.le_refl _) hBa.size))
    refine step_append_own rfl (.tmp 22) (.tmp 31) _ rfl (rb + 1) 28 j0 _ 1 8 Tryz.underlying29 hj hj0 hj1 hj2 rfl (by decide) _ _ _ rfl (own_below HO.out hB0 (Nat.le_refl _)) ⟨_, 0, none⟩ 1 1 [idV cid] rfl rfl ?_ (by intro u hu; simp only [List.mem_singleton] at hu; subst hu; rfl) ?_ ?_ ?_ ?_
    ·
     intro j u hj; exact below_cell hBc (Nat.le_refl _) (hTa j u hj)
    ·
     unfold maxLen; omega
    ·
     omega
    ·
     have := hB0.size; omega
    intro v1 Wb ownb gb atb
    have hST := HSTEP.out Wc Wb v1 cid hB0 ownb gb atb
    refine hK.out _ _ (⟨gb.cell hHeld.1 HM0.out.1, gb.cell hHeld.2.1 HM1.out.1, gb.cell hHeld.2.2.1 HM2.out.1, gb.cell hHeld.2.2.2 HM3.out.1⟩) (fun hHeld => ?_)
    clear hK K
    try simp only [Act.put, sA, sB, sC]
    refine wpAnyT_one (i := 25) rfl (by kernel_rfl) (fun K hK => ?_)
    have hB2 := Below.refl Wb.heap.size Wb
    refine step_append_own rfl (.tmp 36) (.tmp 41) _ rfl (rb + 1) 9 k0 _ 1 16 Tryz.underlying58 hk hk0 hk1 hk2 rfl (by decide) _ _ _ rfl (hST.1 _ hB2) ⟨_, 0, none⟩ 1 1 [strV (m ++ 32 :: nm)] rfl rfl ?_ (by intro u hu; simp only [List.mem_singleton] at hu; subst hu; rfl) ?_ ?_ ?_ ?_
    ·
     intro j u hj; exact gb.cell (hTc j u hj) (HF.out _ (by have h0 := hBa.size; unfold Addr.add; split <;> exact h0))
    ·
     unfold maxLen; omega
    ·
     omega
    ·
     have := hB0.size; have := gb.size; have := hB2.size; omega
    intro v2 Wd ownd gd atd
    have hFIN := hST.2 Wb Wd v2 (m ++ 32 :: nm) hB2 ownd gd atd
    refine hK.out _ _ (⟨gd.cell hHeld.1 HM0.out.2, gd.cell hHeld.2.1 HM1.out.2, gd.cell hHeld.2.2.1 HM2.out.2, gd.cell hHeld.2.2.2 HM3.out.2⟩) (fun hHeld => ?_)
    clear hK K
    try simp only [Act.put, sA, sB, sC]
    refine wpAnyT_tail (by kernel_rfl) ?_
    simp only [List.drop_succ_cons, List.drop_zero]
    have hrbk : Wd.heap[rb]? = w3.heap[rb]? := (gd.block rb (by have := hB0.size; have := gb.size; have := hB2.size; omega) HM0.out.2).trans ((hB2.block rb (by have := hB0.size; have := gb.size; omega)).trans ((gb.block rb (by have := hB0.size; omega) HM0.out.1).trans (hB0.block rb hlt)))
    have g9 := (World.frozen?_of_block (a := ⟨rb, 9, none⟩) hrbk).trans f9
    have g10 := (World.frozen?_of_block (a := ⟨rb, 10, none⟩) hrbk).trans f10
    have FIN := Lib.hid hFIN
    obtain ⟨d4, d9, d10, dg⟩ := hHeld
    obtain ⟨q1, z1, rfl⟩ := ownsRow_succ ownb
    obtain ⟨q2, z2, rfl⟩ := ownsRow_succ ownd
    clear hrbk hFIN hST gd gb hB2 hB0 ownd ownb atd atb f9 f10 HO HSTEP HF k4 k9 k10 kid hTa hTc
    go_wp2_with fail
    go_meet
    case rel => exact ⟨(by rw [← e4]; exact FIN.out.1), FIN.out.2⟩
  ·
   go_simp
   generalize hWc : World.drew (World.alloc _ _) = Wc
   have hTc : ∀ j u, [strV (m ++ 32 :: nm)][j]? = some u → Wc.cell? ((⟨w3.heap.size, 0, none⟩ : Addr).add j) = some u := by rw [← hWc]; exact cells_new _ _ _
   have hBc : Below w3.heap.size w3 Wc := by rw [← hWc]; exact ((Below.refl _ _).alloc (Nat.le_refl _) _).drew
   clear hWc
   refine hK.out _ _ (⟨below_cell hBc (Nat.le_refl _) hHeld.1, below_cell hBc (Nat.le_refl _) hHeld.2.1, below_cell hBc (Nat.le_refl _) hHeld.2.2.1, below_cell hBc (Nat.le_refl _) hHeld.2.2.2⟩) (fun hHeld => ?_)
   clear hK K
   try simp only [Act.put, sA, sB, sC]
   refine wpAnyT_one (i := 14) rfl (by kernel_rfl) (fun K hK => ?_)
   go_simp
   generalize hWa : World.alloc _ _ = Wa
   have hTa : ∀ j u, [idV cid][j]? = some u → Wa.cell? ((⟨Wc.heap.size, 0, none⟩ : Addr).add j) = some u := by rw [← hWa]; exact cells_new _ _ _
   have hBa : Below Wc.heap.size Wc Wa := by rw [← hWa]; exact (Below.refl _ _).alloc (Nat.le_refl _) _
   clear hWa
   refine hK.out _ _ (⟨below_cell hBa (Nat.le_refl _) hHeld.1, below_cell hBa (Nat.le_refl _) hHeld.2.1, below_cell hBa (Nat.le_refl _) hHeld.2.2.1, below_cell hBa (Nat.le_refl _) hHeld.2.2.2⟩) (fun hHeld => ?_)
   clear hK K
   try simp only [Act.put, sA, sB, sC]
   refine wpAnyT_one (i := 15) rfl (by kernel_rfl) (fun K hK => ?_)
   have hB0 : Below w3.heap.size w3 Wa := (((Below.refl w3.heap.size w3)).trans (hBc.mono (Nat.le_refl _))).trans (hBa.mono (Nat.le_trans (Nat.le_refl _) hBc.size))
   refine step_append_own rfl (.tmp 22) (.tmp 31) _ rfl (rb + 1) 28 j0 _ 1 8 Tryz.underlying29 hj hj0 hj1 hj2 rfl (by decide) _ _ _ rfl (own_below HO.out hB0 (Nat.le_refl _)) ⟨_, 0, none⟩ 1 1 [idV cid] rfl rfl ?_ (by intro u hu; simp only [List.mem_singleton] at hu; subst hu; rfl) ?_ ?_ ?_ ?_
   ·
    exact hTa
   ·
    unfold maxLen; omega
   ·
    omega
   ·
    have := hB0.size; omega
   intro v1 Wb ownb gb atb
   have hST := HSTEP.out Wa Wb v1 cid hB0 ownb gb atb
   refine hK.out _ _ (⟨gb.cell hHeld.1 HM0.out.1, gb.cell hHeld.2.1 HM1.out.1, gb.cell hHeld.2.2.1 HM2.out.1, gb.cell hHeld.2.2.2 HM3.out.1⟩) (fun hHeld => ?_)
   clear hK K
   try simp only [Act.put, sA, sB, sC]
   refine wpAnyT_one (i := 25) rfl (by kernel_rfl) (fun K hK => ?_)
   have hB2 := Below.refl Wb.heap.size Wb
   refine step_append_own rfl (.tmp 36) (.tmp 41) _ rfl (rb + 1) 9 k0 _ 1 16 Tryz.underlying58 hk hk0 hk1 hk2 rfl (by decide) _ _ _ rfl (hST.1 _ hB2) ⟨_, 0, none⟩ 1 1 [strV (m ++ 32 :: nm)] rfl rfl ?_ (by intro u hu; simp only [List.mem_singleton] at hu; subst hu; rfl) ?_ ?_ ?_ ?_
   ·
    intro j u hj; exact gb.cell (below_cell hBa (Nat.le_refl _) (hTc j u hj)) (HF.out _ (by have h0 := Nat.le_refl w3.heap.size; unfold Addr.add; split <;> exact h0))
   ·
    unfold maxLen; omega
   ·
    omega
   ·
    have := hB0.size; have := gb.size; have := hB2.size; omega
   intro v2 Wd ownd gd atd
   have hFIN := hST.2 Wb Wd v2 (m ++ 32 :: nm) hB2 ownd gd atd
   refine hK.out _ _ (⟨gd.cell hHeld.1 HM0.out.2, gd.cell hHeld.2.1 HM1.out.2, gd.cell hHeld.2.2.1 HM2.out.2, gd.cell hHeld.2.2.2 HM3.out.2⟩) (fun hHeld => ?_)
   clear hK K
   try simp only [Act.put, sA, sB, sC]
   refine wpAnyT_tail (by kernel_rfl) ?_
   simp only [List.drop_succ_cons, List.drop_zero]
   have hrbk : Wd.heap[rb]? = w3.heap[rb]? := (gd.block rb (by have := hB0.size; have := gb.size; have := hB2.size; omega) HM0.out.2).trans ((hB2.block rb (by have := hB0.size; have := gb.size; omega)).trans ((gb.block rb (by have := hB0.size; omega) HM0.out.1).trans (hB0.block rb hlt)))
   have g9 := (World.frozen?_of_block (a := ⟨rb, 9, none⟩) hrbk).trans f9
   have g10 := (World.frozen?_of_block (a := ⟨rb, 10, none⟩) hrbk).trans f10
   have FIN := Lib.hid hFIN
   obtain ⟨d4, d9, d10, dg⟩ := hHeld
   obtain ⟨q1, z1, rfl⟩ := ownsRow_succ ownb
   obtain ⟨q2, z2, rfl⟩ := ownsRow_succ ownd
   clear hrbk hFIN hST gd gb hB2 hB0 ownd ownb atd atb f9 f10 HO HSTEP HF k4 k9 k10 kid hTa hTc
   go_wp2_with fail
   go_meet
   case rel => exact ⟨(by rw [← e4]; exact FIN.out.1), FIN.out.2⟩
 case rest =>
  obtain ⟨hR4, hb4⟩ := hcut
  clear TN TD TM
  have hBw : Below rb w wc := hb1.trans (hb2.below.trans (hb3.below.trans hb4))
  have hl4 : s.rows.length < s4.rows.length := Nat.lt_of_lt_of_le hl3 g34.len
  have hd4 : s4.deep ≤ 90 := by rw [hes.deep]; exact hdp
  have hd5 : s4.deep = s.deep := hes.deep
  clear hb1 hb2 hb3 hb4 hR hR1 hR2 hR3 e3 enm ecid e4 es1 es2 es3
  by_cases hb : s4.enter.bad = true
  ·
   rw [if_pos hb] at he
   injection he with he
   have TQ := fun W h => Lib.hid (enter9_ok (rb := rb) (s := s4) (w := W) (b := false) h ho4 (by rw [hb]; rfl))
   have hdp2 : s4.enter.deep = s4.deep + 1 := enter_deep _
   clear hb
   go_wp2_with (go_at_call 139; refine ((TQ _ hR4).out).mono ?_; rintro e w5 ⟨rfl, hR5, hb5⟩; obtain ⟨_, c2, _, _, _⟩ := hR5.cell; have f2 := hR5.frozen 2)
   go_end0
   rw [← he]
   exact ⟨rfl, hR5.leave9 (by omega) (by omega), hBw.trans (hb5.setCell (p := ⟨rb, 2, none⟩) (Nat.le_refl _) _)⟩
  ·
   rw [if_neg hb] at he
   have hbf : s4.enter.bad = false := by simpa using hb
   cases ha : Hg.Rd.args f true (s4.enter.need [40]) s.rows.length with
   | none => rw [ha] at he; simp at he
   | some s5 =>
     rw [ha] at he
     injection he with he
     have eA := (Hg.Rd.expr_es f).2.2 _ _ _ _ ha
     have hf5 : Fin_ s5 := hf.of (by rw [← he]; exact Hg.Rd.grow_leave _)
     have hoe : Okk s4.enter := ho4.enter (by omega) ((Hg.Rd.grow_need _ _).trans eA.grow) hf5
     have hon : Okk (s4.enter.need [40]) := hoe.es (Hg.Rd.es_need _ _) eA.grow hf5
     have hde := enter_deep_le hbf
     have hdp5 : s5.deep = s.deep + 1 := by rw [eA.deep, (Hg.Rd.es_need _ _).deep, enter_deep, hd5]
     have hdn : (s4.enter.need [40]).deep ≤ 90 := by rw [(Hg.Rd.es_need _ _).deep]; exact hde
     have hln : s.rows.length < (s4.enter.need [40]).rows.length := Nat.lt_of_lt_of_le hl4 (by have := (Hg.Rd.grow_need s4.enter [40]).len; rw [enter_rows] at this; exact this)
     have TQ := fun W h => Lib.hid (enter9_ok (rb := rb) (s := s4) (w := W) (b := true) h ho4 (by rw [hbf]; rfl))
     have TD := fun W h => Lib.hid (need9_ok (rb := rb) (s := s4.enter) (t := [40]) (w := W) h hoe)
     clear hb hbf hoe
     generalize s4.enter.need [40] = t0 at *
     go_wp2_with (first
      | (go_at_call 139; refine ((TQ _ hR4).out).mono ?_; rintro e w5 ⟨rfl, hR5, hb5⟩)
      | (go_at_call 68; refine ((TD _ hR5).out).mono ?_; rintro e w6 ⟨rfl, hR6, hb6⟩))
     go_loopg [8] f (fun k p wr => ArgsR rb s.rows.length s5 f w6 k p wr)
     case atStart =>
      exact ⟨true, t0, rfl, ha, hR6, hon, hdn, hln, Below.refl _ _, Nat.le_refl _⟩
     case round =>
      obtain ⟨b, t, rfl, hargs, hRt, hot, hdt, hlt, hBt, hkf⟩ := hrel
      have hB6 : Below rb w wr := hBw.trans (hb5.trans (hb6.below.trans hBt))
      clear hBw hb5 hb6 hR4 hR5 hR6 TQ TD ha hln hdn hon eA
      obtain ⟨_, c2, c3, _, _⟩ := hRt.cell
      have f2 := hRt.frozen 2
      cases gk with
      | zero => simp [Hg.Rd.args] at hargs
      | succ k =>
        rw [Hg.Rd.args] at hargs
        by_cases hbad : t.bad = true
        ·
         rw [if_pos hbad] at hargs
         injection hargs with hargs
         subst hargs
         rw [hbad] at c3
         clear hbad
         go_wp2
         go_end0
         rw [← he]
         exact ⟨rfl, hRt.leave9 (by omega) (by omega), hB6.setCell (p := ⟨rb, 2, none⟩) (Nat.le_refl _) _⟩
        rw [if_neg hbad] at hargs
        have hbf : t.bad = false := by simpa using hbad
        rw [hbf] at c3
        clear hbad hbf
        by_cases hn : t.next [41] = true
        ·
         rw [if_pos hn] at hargs
         injection hargs with hargs
         have TE := fun W h => Lib.hid (eat9_yes (rb := rb) (s := t) (t := [41]) (w := W) h hot hn)
         rw [hargs] at TE
         clear hn
         go_wp2_with (go_at_call 72; refine ((TE _ hRt).out).mono ?_; rintro e w7 ⟨rfl, hR7, hb7⟩; obtain ⟨_, c2', _, _, _⟩ := hR7.cell; have f2' := hR7.frozen 2)
         go_end0
         rw [← he]
         exact ⟨rfl, hR7.leave9 (by omega) (by omega), (hB6.trans hb7.below).setCell (p := ⟨rb, 2, none⟩) (Nat.le_refl _) _⟩
        rw [if_neg hn] at hargs
        have hnf : t.next [41] = false := by simpa using hn
        clear hn
        have TE := fun W h => Lib.hid (eat9_no (rb := rb) (s := t) (t := [41]) (w := W) h hot hnf)
        clear hnf
        cases b with
        | true =>
          rw [if_pos rfl] at hargs
          cases hx : Hg.Rd.expr k t s.rows.length with
          | none => rw [hx] at hargs; simp at hargs
          | some t1 =>
            rw [hx] at hargs
            dsimp only at hargs
            have ex := (Hg.Rd.expr_es k).1 _ _ _ hx
            have ey := (Hg.Rd.expr_es k).2.2 _ _ _ _ hargs
            have hft : Fin_ t1 := hf5.of ey.grow
            have hot1 : Okk t1 := hot.es ex ey.grow hf5
            have TX := fun W h => Lib.hid (ihE k (by omega) rb t s.rows.length t1 W hx h hot hdt hft hlt)
            go_wp2_with (first
             | (go_at_call 72; refine ((TE _ hRt).out).mono ?_; rintro e w7 ⟨rfl, hR7, hb7⟩)
             | (go_at_call 111; refine ((TX _ hR7).out).mono ?_; rintro e w8 ⟨rfl, hR8, hb8⟩))
            go_roundg k
            case measure => omega
            case rel => exact ⟨false, t1, rfl, hargs, hR8, hot1, (by rw [ex.deep]; exact hdt), Nat.lt_of_lt_of_le hlt ex.grow.len, hBt.trans (hb7.below.trans hb8), by omega⟩
        | false =>
          rw [if_neg (by simp)] at hargs
          cases hx : Hg.Rd.expr k (t.need [44]) s.rows.length with
          | none => rw [hx] at hargs; simp at hargs
          | some t1 =>
            rw [hx] at hargs
            dsimp only at hargs
            have en := Hg.Rd.es_need t [44]
            have ex := (Hg.Rd.expr_es k).1 _ _ _ hx
            have ey := (Hg.Rd.expr_es k).2.2 _ _ _ _ hargs
            have hft : Fin_ t1 := hf5.of ey.grow
            have hotn : Okk (t.need [44]) := hot.es en (ex.grow.trans ey.grow) hf5
            have hot1 : Okk t1 := hotn.es ex ey.grow hf5
            have hdtn : (t.need [44]).deep ≤ 90 := by rw [en.deep]; exact hdt
            have hltn : s.rows.length < (t.need [44]).rows.length := Nat.lt_of_lt_of_le hlt en.grow.len
            have TX := fun W h => Lib.hid (ihE k (by omega) rb (t.need [44]) s.rows.length t1 W hx h hotn hdtn hft hltn)
            have TM := fun W h => Lib.hid (need9_ok (rb := rb) (s := t) (t := [44]) (w := W) h hot)
            go_wp2_with (first
             | (go_at_call 72; refine ((TE _ hRt).out).mono ?_; rintro e w7 ⟨rfl, hR7, hb7⟩)
             | (go_at_call 68; refine ((TM _ hR7).out).mono ?_; rintro e w9 ⟨rfl, hR9, hb9⟩)
             | (go_at_call 111; refine ((TX _ hR9).out).mono ?_; rintro e w8 ⟨rfl, hR8, hb8⟩))
            go_roundg k
            case measure => omega
            case rel => exact ⟨false, t1, rfl, hargs, hR8, hot1, (by rw [ex.deep]; exact hdtn), Nat.lt_of_lt_of_le hltn ex.grow.len, hBt.trans (hb7.below.trans (hb9.below.trans hb8)), by omega⟩
end Go.Proofs.YtihmbbkppkgcmaaGreatDoor
namespace Go.Proofs.YtihmbbkppkgcmaaGreatDoor
open Go.RowKit
def PutRes (Z : Nat → Prop) (w : World) (ab mb c : Nat) (M : Nat → Option Hg.Node) (id : Nat) (nd : Hg.Node) (w' : World) : Prop :=
 ArAtZ (fun q => Z q ∨ w.heap.size ≤ q ∧ q < w'.heap.size) w' ab mb (if (M id).isSome then c else c + 1) (putM M id nd) ∧ w.grownBy w' (some mb)
set_option maxHeartbeats 4000000 in
set_option maxRecDepth 100000 in
theorem put_any (Z : Nat → Prop) (ab mb c : Nat) (M : Nat → Option Hg.Node) (id : Nat) (nd : Hg.Node) (ka : Option Addr) (kc : Nat) (w : World) (hA : ArAtZ Z w ab mb c M) (hid : id < idTop) (hid0 : id ≠ 0) (hfull : (M id).isSome = true ∨ c < 20000) (hc : c ≤ 1000000)
 (hs : Sl w w.heap.size (.slice ka nd.kids.length kc) nd.kids.length (nd.kids.map idV)) (hlen : nd.kids.length ≤ 1000000) :
 Calls Tryz.prog 25 #[.pointer (some ⟨ab, 0, none⟩), .int .u64 (id : Int), ndV nd ka kc] w fun e w' => e = .returned (.int .i64 0) ∧ PutRes Z w ab mb c M id nd w' := by
 obtain ⟨c0, f0⟩ := hA.read
 have hlt := hA.lt
 have hq0 : ((id : Int) == 0) = false := by simp; omega
 have HA := Lib.hid hA
 have HS := Lib.hid hs
 have HI := Lib.hid hid
 have hb0 : Below w.heap.size w (w.alloc (.cells #[.int .u8 (nd.kind : Int), strV nd.name, .int .i64 nd.num, .int .u8 (nd.type : Int), .int .u64 (nd.ref : Int), .slice ka nd.kids.length kc] 31)) := (Below.refl _ _).alloc (Nat.le_refl _) _
 obtain ⟨k1, c1, hlk, _⟩ := (hA.below hb0 (Nat.le_refl _)).map.look1 hid
 clear hA hs hid hid0
 have hlen7 : ∀ W, ArMapZ Z W mb c M → (Builtin.len_ #[77] 3 #[.map (some mb)]).run Tryz.prog W = .ok (.int .i64 (c : Int)) W := by
  rintro W ⟨⟨D, ho, hs, _⟩, _⟩
  rw [ho.len Tryz.underlying77 _, hs]
 have hl7 := hlen7 _ ((HA.out.below hb0 (Nat.le_refl _)).map.below ((Below.refl _ _).alloc (Nat.le_refl _) (.cells #[.int .u8 (((M id).getD Hg.Node.zero).kind : Int), strV ((M id).getD Hg.Node.zero).name, .int .i64 ((M id).getD Hg.Node.zero).num, .int .u8 (((M id).getD Hg.Node.zero).type : Int), .int .u64 (((M id).getD Hg.Node.zero).ref : Int), .slice k1 ((M id).getD Hg.Node.zero).kids.length c1] 31)) (Nat.le_refl _))
 generalize (M id).getD Hg.Node.zero = n0 at hlk hl7
 have HSZ := Lib.hid (show (if (M id).isSome = true then c else c + 1) = (if (M id).isSome = true then c else c + 1) from rfl)
 have HF := Lib.hid hfull
 have hfin : ∀ W4, ArAtZ (fun q => Z q ∨ w.heap.size ≤ q ∧ q < W4.heap.size) W4 ab mb (if (M id).isSome = true then c else c + 1) (putM M id nd) → w.grownBy W4 (some mb) → PutRes Z w ab mb c M id nd W4 := fun W4 h1 h2 => ⟨h1, h2⟩
 have HFI := Lib.hid hfin
 have hful2 : (M id).isSome = false → decide ((20000 : Int) ≤ (c : Int)) = false := by
  intro h; rcases HF.out with h' | h'
  ·
   rw [h] at h'; cases h'
  ·
   simp; omega
 clear hlen7 HF hfull hfin
 have hmain : ∀ s, (M id).isSome = s → Calls Tryz.prog 25 #[.pointer (some ⟨ab, 0, none⟩), .int .u64 (id : Int), ndV nd ka kc] w fun e w' => e = .returned (.int .i64 0) ∧ PutRes Z w ab mb c M id nd w' := by
  intro s hs
  rw [hs] at hlk
  have hq1 : s = false → decide ((20000 : Int) ≤ (c : Int)) = false := fun e => hful2 (hs.trans e)
  clear hs hful2
  cases s with
  | true =>
    clear hq1
    go_enter Tryz.func25, Tryz.ntmps25
    go_upto_region 8 with fail
    have hb2 : Below w.heap.size w ((w.alloc (.cells #[.int .u8 (nd.kind : Int), strV nd.name, .int .i64 nd.num, .int .u8 (nd.type : Int), .int .u64 (nd.ref : Int), .slice ka nd.kids.length kc] 31)).alloc (.cells #[.int .u8 (n0.kind : Int), strV n0.name, .int .i64 n0.num, .int .u8 (n0.type : Int), .int .u64 (n0.ref : Int), .slice k1 n0.kids.length c1] 31)) := hb0.alloc hb0.size _
    have hh0 := heap_alloc2_old w (.cells #[.int .u8 (nd.kind : Int), strV nd.name, .int .i64 nd.num, .int .u8 (nd.type : Int), .int .u64 (nd.ref : Int), .slice ka nd.kids.length kc] 31) (.cells #[.int .u8 (n0.kind : Int), strV n0.name, .int .i64 n0.num, .int .u8 (n0.type : Int), .int .u64 (n0.ref : Int), .slice k1 n0.kids.length c1] 31)
    have k := fun i => cell_of_row _ w.heap.size i _ _ (0, 0) hh0
    have e0 := k 0; have e1 := k 1; have e2 := k 2; have e3 := k 3; have e4 := k 4; have e5 := k 5
    clear k hh0 hlk hl7 hb0
    generalize World.alloc (World.alloc w _) _ = W2 at hb2 e0 e1 e2 e3 e4 e5 ⊢
    have HA2 := Lib.hid (HA.out.below hb2 (Nat.le_refl _))
    have HK2 := Lib.hid (((HS.out.below hb2 (Nat.le_refl _)).more hb2.size).below ((Below.refl W2.heap.size W2).drew) (Nat.le_refl _))
    have hHeld : (fun w' => w'.cell? ⟨ab, 0, none⟩ = some (.map (some mb)) ∧ w'.cell? ⟨w.heap.size, 0, none⟩ = some (.int .u8 (nd.kind : Int)) ∧ w'.cell? ⟨w.heap.size, 1, none⟩ = some (strV nd.name) ∧ w'.cell? ⟨w.heap.size, 2, none⟩ = some (.int .i64 nd.num) ∧ w'.cell? ⟨w.heap.size, 3, none⟩ = some (.int .u8 (nd.type : Int)) ∧ w'.cell? ⟨w.heap.size, 4, none⟩ = some (.int .u64 (nd.ref : Int)) ∧ w'.cell? ⟨w.heap.size, 5, none⟩ = some (.slice ka nd.kids.length kc)) W2.drew := ⟨(hb2.cell hlt).trans c0, e0, e1, e2, e3, e4, e5⟩
    have hsz2 : w.heap.size ≤ W2.heap.size := hb2.size
    have HN := Lib.hid (show ∀ W3 W4, Below W2.heap.size W2.drew W3 → ArMapZ (fun q => Z q ∨ w.heap.size ≤ q ∧ q < W3.heap.size) W4 mb (if (M id).isSome = true then c else c + 1) (putM M id nd) → W3.grownBy W4 (some mb) → PutRes Z w ab mb c M id nd W4 from fun W3 W4 h1 h2 h3 => by
     have hb3 : Below w.heap.size w W3 := (hb2.drew).trans (h1.mono hb2.size)
     have hne : ab ≠ mb := fun e => by
      have hc := HA.out.cell
      obtain ⟨⟨D, ho, _⟩, _⟩ := HA.out.map
      obtain ⟨es, ck, hm⟩ := owns_map ho
      rw [e, hm] at hc; cases hc
     refine HFI.out W4 (ArAtZ.imp (Z := fun q => Z q ∨ w.heap.size ≤ q ∧ q < W3.heap.size) ⟨?_, h2⟩ (fun q h => h.imp (fun x => x) (fun h => ⟨h.1, Nat.lt_of_lt_of_le h.2 h3.size⟩))) ⟨h3.os.trans hb3.os, h3.tape.trans hb3.tape, h3.output.trans hb3.output, Nat.le_trans hb3.size h3.size, fun i hi hne => (h3.block i (Nat.lt_of_lt_of_le hi hb3.size) hne).trans (hb3.block i hi)⟩
     exact (h3.block ab (Nat.lt_of_lt_of_le hlt hb3.size) (fun e => hne (by injection e))).trans ((hb3.block ab hlt).trans HA.out.cell))
    clear hb2 e0 e1 e2 e3 e4 e5 c0 f0
    refine wp_region_two (fun w' => w'.cell? ⟨ab, 0, none⟩ = some (.map (some mb)) ∧ w'.cell? ⟨w.heap.size, 0, none⟩ = some (.int .u8 (nd.kind : Int)) ∧ w'.cell? ⟨w.heap.size, 1, none⟩ = some (strV nd.name) ∧ w'.cell? ⟨w.heap.size, 2, none⟩ = some (.int .i64 nd.num) ∧ w'.cell? ⟨w.heap.size, 3, none⟩ = some (.int .u8 (nd.type : Int)) ∧ w'.cell? ⟨w.heap.size, 4, none⟩ = some (.int .u64 (nd.ref : Int)) ∧ w'.cell? ⟨w.heap.size, 5, none⟩ = some (.slice ka nd.kids.length kc)) 7 (by kernel_rfl) ?_
    refine tk 0 ?_ rfl (by kernel_rfl) (fun _ _ _ h => h) ‹_› ?_ ?_ (tk 1 ?_ rfl (by kernel_rfl) (fun _ _ _ h => h) ‹_› ?_ ?_ (tk 2 ?_ rfl (by kernel_rfl) (fun _ _ _ h => h) ‹_› ?_ ?_ (tk 3 ?_ rfl (by kernel_rfl) (fun _ _ _ h => h) ‹_› ?_ ?_ (tk 4 ?_ rfl (by kernel_rfl) (fun _ _ _ h => h) ‹_› ?_ ?_ (tk 5 ?_ rfl (by kernel_rfl) (fun _ _ _ h => h) ‹_› ?_ ?_ ?_)))))
    all_goals try (first | rfl | ((try simp only [Act.put, sA, sB, sC]); intro w' hSw; (try dsimp only at hSw); go_simp; try with_reducible rfl))
    try simp only [Act.put, sA, sB, sC]
    refine wpAnyT_one (i := 6) rfl (by kernel_rfl) (fun K hK => ?_)
    go_simp
    refine (whole_any W2.heap.size nd ka kc W2.drew (Nat.le_refl _) HK2.out hlen).mono ?_
    rintro e w3 ⟨ka3, kc3, rfl, hs3, hb3, hq3⟩
    refine hK.out _ _ (⟨below_cell hb3 (Nat.le_refl _) hHeld.1, below_cell hb3 (Nat.le_refl _) hHeld.2.1, below_cell hb3 (Nat.le_refl _) hHeld.2.2.1, below_cell hb3 (Nat.le_refl _) hHeld.2.2.2.1, below_cell hb3 (Nat.le_refl _) hHeld.2.2.2.2.1, below_cell hb3 (Nat.le_refl _) hHeld.2.2.2.2.2.1, below_cell hb3 (Nat.le_refl _) hHeld.2.2.2.2.2.2⟩) (fun hHeld => ?_)
    clear hK K
    try simp only [Act.put, sA, sB, sC]
    refine wpAnyT_tail (by kernel_rfl) ?_
    simp only [List.drop_succ_cons, List.drop_zero]
    obtain ⟨W4, hrun4, hA4, hg4⟩ := (((HA2.out.below ((Below.refl W2.heap.size W2).drew) (Nat.le_refl _)).map.below hb3 (Nat.le_refl _)).imp (Z' := fun q => Z q ∨ w.heap.size ≤ q ∧ q < w3.heap.size) (fun q h => .inl h)).store hc (HI.out) nd ka3 kc3 hs3 hlen (fun q hq => .inr ⟨by have h1 := (hq3 q hq).1; have h2 : W2.drew.heap.size = W2.heap.size := rfl; have h3 := hsz2; omega, (hq3 q hq).2⟩)
    have HFIN := Lib.hid (HN.out _ _ hb3 hA4 hg4)
    clear hA4 hg4 hs3 hb3 hq3 hHeld HK2 HA2 HN
    go_wp2_with fail
    go_ret
    exact ⟨rfl, HFIN.out⟩
  | false =>
    have hq1 := hq1 rfl
    go_enter Tryz.func25, Tryz.ntmps25
    go_upto_region 8 with fail
    have hb2 : Below w.heap.size w ((w.alloc (.cells #[.int .u8 (nd.kind : Int), strV nd.name, .int .i64 nd.num, .int .u8 (nd.type : Int), .int .u64 (nd.ref : Int), .slice ka nd.kids.length kc] 31)).alloc (.cells #[.int .u8 (n0.kind : Int), strV n0.name, .int .i64 n0.num, .int .u8 (n0.type : Int), .int .u64 (n0.ref : Int), .slice k1 n0.kids.length c1] 31)) := hb0.alloc hb0.size _
    have hh0 := heap_alloc2_old w (.cells #[.int .u8 (nd.kind : Int), strV nd.name, .int .i64 nd.num, .int .u8 (nd.type : Int), .int .u64 (nd.ref : Int), .slice ka nd.kids.length kc] 31) (.cells #[.int .u8 (n0.kind : Int), strV n0.name, .int .i64 n0.num, .int .u8 (n0.type : Int), .int .u64 (n0.ref : Int), .slice k1 n0.kids.length c1] 31)
    have k := fun i => cell_of_row _ w.heap.size i _ _ (0, 0) hh0
    have e0 := k 0; have e1 := k 1; have e2 := k 2; have e3 := k 3; have e4 := k 4; have e5 := k 5
    clear k hh0 hlk hl7 hb0
    generalize World.alloc (World.alloc w _) _ = W2 at hb2 e0 e1 e2 e3 e4 e5 ⊢
    have HA2 := Lib.hid (HA.out.below hb2 (Nat.le_refl _))
    have HK2 := Lib.hid (((HS.out.below hb2 (Nat.le_refl _)).more hb2.size).below ((Below.refl W2.heap.size W2).drew) (Nat.le_refl _))
    have hHeld : (fun w' => w'.cell? ⟨ab, 0, none⟩ = some (.map (some mb)) ∧ w'.cell? ⟨w.heap.size, 0, none⟩ = some (.int .u8 (nd.kind : Int)) ∧ w'.cell? ⟨w.heap.size, 1, none⟩ = some (strV nd.name) ∧ w'.cell? ⟨w.heap.size, 2, none⟩ = some (.int .i64 nd.num) ∧ w'.cell? ⟨w.heap.size, 3, none⟩ = some (.int .u8 (nd.type : Int)) ∧ w'.cell? ⟨w.heap.size, 4, none⟩ = some (.int .u64 (nd.ref : Int)) ∧ w'.cell? ⟨w.heap.size, 5, none⟩ = some (.slice ka nd.kids.length kc)) W2.drew := ⟨(hb2.cell hlt).trans c0, e0, e1, e2, e3, e4, e5⟩
    have hsz2 : w.heap.size ≤ W2.heap.size := hb2.size
    have HN := Lib.hid (show ∀ W3 W4, Below W2.heap.size W2.drew W3 → ArMapZ (fun q => Z q ∨ w.heap.size ≤ q ∧ q < W3.heap.size) W4 mb (if (M id).isSome = true then c else c + 1) (putM M id nd) → W3.grownBy W4 (some mb) → PutRes Z w ab mb c M id nd W4 from fun W3 W4 h1 h2 h3 => by
     have hb3 : Below w.heap.size w W3 := (hb2.drew).trans (h1.mono hb2.size)
     have hne : ab ≠ mb := fun e => by
      have hc := HA.out.cell
      obtain ⟨⟨D, ho, _⟩, _⟩ := HA.out.map
      obtain ⟨es, ck, hm⟩ := owns_map ho
      rw [e, hm] at hc; cases hc
     refine HFI.out W4 (ArAtZ.imp (Z := fun q => Z q ∨ w.heap.size ≤ q ∧ q < W3.heap.size) ⟨?_, h2⟩ (fun q h => h.imp (fun x => x) (fun h => ⟨h.1, Nat.lt_of_lt_of_le h.2 h3.size⟩))) ⟨h3.os.trans hb3.os, h3.tape.trans hb3.tape, h3.output.trans hb3.output, Nat.le_trans hb3.size h3.size, fun i hi hne => (h3.block i (Nat.lt_of_lt_of_le hi hb3.size) hne).trans (hb3.block i hi)⟩
     exact (h3.block ab (Nat.lt_of_lt_of_le hlt hb3.size) (fun e => hne (by injection e))).trans ((hb3.block ab hlt).trans HA.out.cell))
    clear hb2 e0 e1 e2 e3 e4 e5 c0 f0
    refine wp_region_two (fun w' => w'.cell? ⟨ab, 0, none⟩ = some (.map (some mb)) ∧ w'.cell? ⟨w.heap.size, 0, none⟩ = some (.int .u8 (nd.kind : Int)) ∧ w'.cell? ⟨w.heap.size, 1, none⟩ = some (strV nd.name) ∧ w'.cell? ⟨w.heap.size, 2, none⟩ = some (.int .i64 nd.num) ∧ w'.cell? ⟨w.heap.size, 3, none⟩ = some (.int .u8 (nd.type : Int)) ∧ w'.cell? ⟨w.heap.size, 4, none⟩ = some (.int .u64 (nd.ref : Int)) ∧ w'.cell? ⟨w.heap.size, 5, none⟩ = some (.slice ka nd.kids.length kc)) 7 (by kernel_rfl) ?_
    refine tk 0 ?_ rfl (by kernel_rfl) (fun _ _ _ h => h) ‹_› ?_ ?_ (tk 1 ?_ rfl (by kernel_rfl) (fun _ _ _ h => h) ‹_› ?_ ?_ (tk 2 ?_ rfl (by kernel_rfl) (fun _ _ _ h => h) ‹_› ?_ ?_ (tk 3 ?_ rfl (by kernel_rfl) (fun _ _ _ h => h) ‹_› ?_ ?_ (tk 4 ?_ rfl (by kernel_rfl) (fun _ _ _ h => h) ‹_› ?_ ?_ (tk 5 ?_ rfl (by kernel_rfl) (fun _ _ _ h => h) ‹_› ?_ ?_ ?_)))))
    all_goals try (first | rfl | ((try simp only [Act.put, sA, sB, sC]); intro w' hSw; (try dsimp only at hSw); go_simp; try with_reducible rfl))
    try simp only [Act.put, sA, sB, sC]
    refine wpAnyT_one (i := 6) rfl (by kernel_rfl) (fun K hK => ?_)
    go_simp
    refine (whole_any W2.heap.size nd ka kc W2.drew (Nat.le_refl _) HK2.out hlen).mono ?_
    rintro e w3 ⟨ka3, kc3, rfl, hs3, hb3, hq3⟩
    refine hK.out _ _ (⟨below_cell hb3 (Nat.le_refl _) hHeld.1, below_cell hb3 (Nat.le_refl _) hHeld.2.1, below_cell hb3 (Nat.le_refl _) hHeld.2.2.1, below_cell hb3 (Nat.le_refl _) hHeld.2.2.2.1, below_cell hb3 (Nat.le_refl _) hHeld.2.2.2.2.1, below_cell hb3 (Nat.le_refl _) hHeld.2.2.2.2.2.1, below_cell hb3 (Nat.le_refl _) hHeld.2.2.2.2.2.2⟩) (fun hHeld => ?_)
    clear hK K
    try simp only [Act.put, sA, sB, sC]
    refine wpAnyT_tail (by kernel_rfl) ?_
    simp only [List.drop_succ_cons, List.drop_zero]
    obtain ⟨W4, hrun4, hA4, hg4⟩ := (((HA2.out.below ((Below.refl W2.heap.size W2).drew) (Nat.le_refl _)).map.below hb3 (Nat.le_refl _)).imp (Z' := fun q => Z q ∨ w.heap.size ≤ q ∧ q < w3.heap.size) (fun q h => .inl h)).store hc (HI.out) nd ka3 kc3 hs3 hlen (fun q hq => .inr ⟨by have h1 := (hq3 q hq).1; have h2 : W2.drew.heap.size = W2.heap.size := rfl; have h3 := hsz2; omega, (hq3 q hq).2⟩)
    have HFIN := Lib.hid (HN.out _ _ hb3 hA4 hg4)
    clear hA4 hg4 hs3 hb3 hq3 hHeld HK2 HA2 HN
    go_wp2_with fail
    go_ret
    exact ⟨rfl, HFIN.out⟩
 exact hmain _ rfl
end Go.Proofs.YtihmbbkppkgcmaaGreatDoor
namespace Go.Proofs.YtihmbbkppkgcmaaGreatDoor
open Go.RowKit
def ParIn (M : Nat → Option Hg.Node) (id : Nat) (S : Nat → Prop) (p : Nat) (k : Int) : Prop :=
 (p = 0 ∧ k = 0 ∧ ∀ i nd, S i → M i = some nd → idxI nd.kids id < 0) ∨
 (p ≠ 0 ∧ S p ∧ (∃ nd, M p = some nd ∧ idxI nd.kids id = k ∧ 0 ≤ k) ∧ ∀ i nd, S i → M i = some nd → 0 ≤ idxI nd.kids id → p ≤ i)
theorem ParIn.skip {M : Nat → Option Hg.Node} {id : Nat} {S S' : Nat → Prop} {p : Nat} {k : Int} (h : ParIn M id S p k) {x : Nat} {nx : Hg.Node} (hx : M x = some nx) (hS : ∀ i, S' i ↔ S i ∨ i = x)
 (hk : idxI nx.kids id < 0 ∨ (p ≠ 0 ∧ p ≤ x)) : ParIn M id S' p k := by
 rcases h with ⟨h1, h2, h3⟩ | ⟨h1, h2, h3, h4⟩
 ·
  left
  refine ⟨h1, h2, fun i nd hi hn => ?_⟩
  rcases (hS i).1 hi with h | h
  ·
   exact h3 i nd h hn
  ·
   subst h
   rw [hx] at hn; injection hn with hn; subst hn
   rcases hk with hk | hk
   ·
    exact hk
   ·
    exact absurd h1 hk.1
 ·
  right
  refine ⟨h1, (hS p).2 (.inl h2), h3, fun i nd hi hn h0 => ?_⟩
  rcases (hS i).1 hi with h | h
  ·
   exact h4 i nd h hn h0
  ·
   subst h
   rw [hx] at hn; injection hn with hn; subst hn
   rcases hk with hk | hk
   ·
    omega
   ·
    exact hk.2
theorem ParIn.take {M : Nat → Option Hg.Node} {id : Nat} {S S' : Nat → Prop} {p : Nat} {k : Int} (h : ParIn M id S p k) {x : Nat} {nx : Hg.Node} (hx : M x = some nx) (hx0 : x ≠ 0) (hS : ∀ i, S' i ↔ S i ∨ i = x)
 (hk : 0 ≤ idxI nx.kids id) (hp : p = 0 ∨ x < p) : ParIn M id S' x (idxI nx.kids id) := by
 right
 refine ⟨hx0, (hS x).2 (.inr rfl), ⟨nx, hx, rfl, hk⟩, fun i nd hi hn h0 => ?_⟩
 rcases (hS i).1 hi with h' | h'
 ·
  rcases h with ⟨h1, h2, h3⟩ | ⟨h1, h2, h3, h4⟩
  ·
   have := h3 i nd h' hn; omega
  ·
   have := h4 i nd h' hn h0
   rcases hp with hp | hp
   ·
    exact absurd hp h1
   ·
    omega
 ·
  omega
def ParentRes (w : World) (M : Nat → Option Hg.Node) (id : Nat) (e : Ending) (w' : World) : Prop :=
 ∃ p k, ParIn M id (fun i => i < idTop) p k ∧ p < idTop ∧ e = .returned (.tuple #[.int .u64 (p : Int), .int .i64 k]) ∧ Below w.heap.size w w'
theorem entry_is {w : World} {D : DataW Value} {M : Nat → Option Hg.Node} (hk : ∀ id, id < idTop → ArKey w D id (M id)) {x : Int} {c : Value} {kl : Lit} {y : DataW Value} {ps : List MemPlace}
 (h1 : keyOf Tryz.prog 28 (.int .u64 x) = some kl) (h2 : rawR c = some (y, ps)) (h3 : ∀ zd, D.atKey kl zd = y) :
 ∃ (i : Nat) (nd : Hg.Node) (ka : Option Addr) (kc : Nat), x = (i : Int) ∧ i < idTop ∧ kl = idL i ∧ M i = some nd ∧ c = ndV nd ka kc ∧ Sl w w.heap.size (.slice ka nd.kids.length kc) nd.kids.length (nd.kids.map idV) := by
 obtain ⟨x', e1, e2, hw⟩ := Maps.keyOf_int_inv Tryz.underlying28 h1
 injection e1 with _ e1
 subst e1
 have hw' : 0 ≤ x ∧ x ≤ 18446744073709551615 := by
  have m1 : IntKind.u64.min = 0 := rfl
  have m2 : IntKind.u64.max = 18446744073709551615 := rfl
  simpa [Lit.wf, m1, m2] using hw
 obtain ⟨i, rfl⟩ := Int.eq_ofNat_of_zero_le hw'.1
 have hi : i < idTop := by unfold idTop; omega
 have hx := hk i hi
 have hkl : kl = idL i := e2
 simp only [rawR, Option.some.injEq, Prod.mk.injEq] at h2
 obtain ⟨h2, _⟩ := h2
 subst h2
 cases hM : M i with
 | none =>
   rw [hM] at hx
   have := Maps.has_true_of_atKey h3
   rw [hkl, show Maps.has D (idL i) = false from hx] at this
   cases this
 | some nd =>
   rw [hM] at hx
   obtain ⟨ka, kc, g1, g2, _⟩ := hx
   have g := g1 (.held c)
   rw [← hkl, h3] at g
   refine ⟨i, nd, ka, kc, rfl, hi, hkl, hM, ?_, g2⟩
   simpa using g
theorem left_next {left : Lit → Bool} {i j : Nat} (hi : i < idTop) (hj : j < idTop) : (left (idL j) && !(idL j).sameKey (idL i)) = false ↔ left (idL j) = false ∨ j = i := by
 by_cases e : j = i
 ·
  subst e
  rw [WideAt.sameKey_self (keyedId.key (keyOf_id hj))]
  simp
 ·
  rw [Maps.sameKey_ne (idL_ne e)]
  simp [e]
set_option maxHeartbeats 4000000 in
set_option maxRecDepth 100000 in
theorem arparent_any (ab mb c : Nat) (M : Nat → Option Hg.Node) (id : Nat) (w : World) (hA : ArAt w ab mb c M) (hM0 : M 0 = none) :
 Calls Tryz.prog 26 #[.pointer (some ⟨ab, 0, none⟩), .int .u64 (id : Int)] w (ParentRes w M id) := by
 obtain ⟨c0, f0⟩ := hA.read
 have HA := Lib.hid hA
 obtain ⟨⟨D, ho, hc, hk⟩, hbd⟩ := hA.map
 have HK := Lib.hid hk
 have HBD := Lib.hid hbd
 have HM0 := Lib.hid hM0
 clear hA hk hbd hM0 f0 hc
 go_enter Tryz.func26, Tryz.ntmps26
 go_wp2_with (at_range; refine wpList_range_own _ rfl (.tmp 16) 77 rfl 28 31 keyedId Tryz.underlying77 rawR mb c D rfl ho ?_; intro w0 hrg0 hg0 hs0)
 go_frame
 have hb0 := below_of_none hg0
 clear hg0 c0
 go_loopw [6, 7] (fun p k wr => ∃ (pn : Nat) (kn : Int) (left : Lit → Bool) (cnt : Nat), p = .int .u64 (pn : Int) ∧ k = .int .i64 kn ∧ pn < idTop ∧ wr.ranges Tryz.prog 28 rawR mb w.heap.size c D left cnt ∧ ParIn M id (fun i => i < idTop ∧ left (idL i) = false) pn kn ∧ Below w.heap.size w wr) (fun _ _ wr => wr.rangeLeft mb w.heap.size)
 case atStart =>
  refine ⟨0, 0, _, _, rfl, rfl, by decide, hrg0, .inl ⟨rfl, rfl, fun i nd hi hn => ?_⟩, hb0⟩
  have hi : i < idTop ∧ Maps.has D (idL i) = false := hi
  have hx := HK.out i hi.1
  rw [hn] at hx
  obtain ⟨_, _, g1, _⟩ := hx
  rw [Maps.has_true_of_atKey g1] at hi
  cases hi.2
 case round =>
  obtain ⟨pn, kn, left, cnt, rfl, rfl, hpt, hrg, hpar, hbw⟩ := hrel
  clear hrg0 hb0 hs0 ho
  have HPT := Lib.hid hpt
  have HP := Lib.hid hpar
  clear hpt hpar
  go_wp2_with (at_next; refine wpList_next_ranges (α := Int) (β := Value) _ rfl (.tmp 17) rfl 28 keyedId rawR (Value.int .u64) (fun v => v) (fun key kl hkey => by obtain ⟨x, rfl, _⟩ := Maps.keyOf_int_inv Tryz.underlying28 hkey; exact ⟨x, rfl⟩) (fun v y hv => ⟨v, rfl⟩) mb w.heap.size c D left cnt rfl hrg ?_ ?_)
  ·
   intro h0 hl
   have hfun : (fun i => i < idTop ∧ left (idL i) = false) = fun i => i < idTop := by
    funext i
    rw [hl]
    simp
   have HP2 := Lib.hid (hfun ▸ HP.out)
   clear hl hfun h0 hrg HP
   go_wp2
   go_ret2
   exact ⟨pn, kn, HP2.out, HPT.out, rfl, hbw⟩
  ·
   intro x cv kl y ps w1 cnt1 hkx hlx hrx hax hrg1 hlt1 hg1 hs1 hen
   obtain ⟨i, nd, ka, kc, rfl, hi, rfl, hMi, rfl, hsl⟩ := entry_is HK.out hkx hrx hax
   have hrlt := hrg.lt
   have hle := hrg.left_eq
   have hb1 : Below w.heap.size w w1 := hbw.grown hg1 (by omega) (fun k hk => by injection hk with hk; omega)
   have hi0 : i ≠ 0 := fun e => by have := HM0.out; rw [← e, hMi] at this; cases this
   have hlen := HBD.out i nd hMi
   have HS : ∀ j, (j < idTop ∧ (left (idL j) && !(idL j).sameKey (idL i)) = false) ↔ (j < idTop ∧ left (idL j) = false) ∨ j = i := by
    intro j
    constructor
    ·
     rintro ⟨h1, h2⟩
     rcases (left_next hi h1).1 h2 with h3 | h3
     ·
      exact .inl ⟨h1, h3⟩
     ·
      exact .inr h3
    ·
     rintro (⟨h1, h2⟩ | h1)
     ·
      exact ⟨h1, (left_next hi h1).2 (.inl h2)⟩
     ·
      subst h1; exact ⟨hi, (left_next hi hi).2 (.inr rfl)⟩
   have HSK := Lib.hid HS
   have HSL := Lib.hid hsl
   have HMI := Lib.hid hMi
   have HR1 := Lib.hid hrg1
   have HLE := Lib.hid hle
   have HIT := Lib.hid hi
   have HI0 := Lib.hid hi0
   clear hkx hlx hrx hax hrg hg1 hsl hMi HS hrg1 hle hi hi0
   have hnb : ∀ z, Below w.heap.size w (w1.alloc (.cells z 31)) := fun z => hb1.alloc hb1.size _
   have TI := Lib.hid (fun W (h : Below w.heap.size w W) => index_any w.heap.size _ nd.kids id W (HSL.out.below h (Nat.le_refl _)) hlen)
   have hend : ∀ z, (w1.alloc (.cells z 31)).ranges Tryz.prog 28 rawR mb w.heap.size c D (fun z => left z && !z.sameKey (idL i)) cnt1 := fun z => HR1.out.alloc _
   have HE := Lib.hid hend
   have HNB := Lib.hid hnb
   have hskip : idxI nd.kids id < 0 ∨ (pn ≠ 0 ∧ pn ≤ i) → ParIn M id (fun j => j < idTop ∧ (left (idL j) && !(idL j).sameKey (idL i)) = false) pn kn := fun h => HP.out.skip HMI.out HSK.out h
   have htake : 0 ≤ idxI nd.kids id → (pn = 0 ∨ i < pn) → ParIn M id (fun j => j < idTop ∧ (left (idL j) && !(idL j).sameKey (idL i)) = false) i (idxI nd.kids id) := fun h k => HP.out.take HMI.out HI0.out HSK.out h k
   have HSKIP := Lib.hid hskip
   have HTAKE := Lib.hid htake
   generalize idxI nd.kids id = q at TI HSKIP HTAKE
   clear hnb hend hskip htake hlen HP HSK HI0
   by_cases hq : 0 ≤ q
   ·
    have hq1 : decide (0 ≤ q) = true := by simpa using hq
    by_cases hp0 : pn = 0
    ·
     have ht := Lib.hid (HTAKE.out hq (.inl hp0))
     have hp1 : ((pn : Int) == 0) = true := by simp [hp0]
     have HP0 := Lib.hid hp0
     have HQ := Lib.hid hq
     clear hp0 hq HSKIP HTAKE
     go_wp2_with (go_at_call 32; refine (TI.out _ (HNB.out _)).mono ?_; rintro e w2 ⟨rfl, rfl⟩)
     go_roundw
     case rel => exact ⟨i, q, _, cnt1, rfl, rfl, HIT.out, HE.out _, ht.out, HNB.out _⟩
     case measure => rw [(HE.out _).left_eq, HLE.out]; exact hlt1
    ·
     by_cases hip : i < pn
     ·
      have ht := Lib.hid (HTAKE.out hq (.inr hip))
      have hp1 : ((pn : Int) == 0) = false := by simp; omega
      have hp2 : decide ((i : Int) < (pn : Int)) = true := by simpa using hip
      have hp3 : decide (i < pn) = true := by simpa using hip
      have HP0 := Lib.hid hp0
      have HQ := Lib.hid hq
      have HIP := Lib.hid hip
      clear hp0 hq hip HSKIP HTAKE
      go_wp2_with (go_at_call 32; refine (TI.out _ (HNB.out _)).mono ?_; rintro e w2 ⟨rfl, rfl⟩)
      go_roundw
      case rel => exact ⟨i, q, _, cnt1, rfl, rfl, HIT.out, HE.out _, ht.out, HNB.out _⟩
      case measure => rw [(HE.out _).left_eq, HLE.out]; exact hlt1
     ·
      have ht := Lib.hid (HSKIP.out (.inr ⟨hp0, by omega⟩))
      have hp1 : ((pn : Int) == 0) = false := by simp; omega
      have hp2 : decide ((i : Int) < (pn : Int)) = false := by simp; omega
      have hp3 : decide (i < pn) = false := by simp; omega
      have HP0 := Lib.hid hp0
      have HQ := Lib.hid hq
      have HIP := Lib.hid hip
      clear hp0 hq hip HSKIP HTAKE
      go_wp2_with (go_at_call 32; refine (TI.out _ (HNB.out _)).mono ?_; rintro e w2 ⟨rfl, rfl⟩)
      go_roundw
      case rel => exact ⟨pn, kn, _, cnt1, rfl, rfl, HPT.out, HE.out _, ht.out, HNB.out _⟩
      case measure => rw [(HE.out _).left_eq, HLE.out]; exact hlt1
   ·
    have ht := Lib.hid (HSKIP.out (.inl (by omega)))
    have hq1 : decide (0 ≤ q) = false := by simp; omega
    have HQ := Lib.hid hq
    clear hq HSKIP HTAKE
    go_wp2_with (go_at_call 32; refine (TI.out _ (HNB.out _)).mono ?_; rintro e w2 ⟨rfl, rfl⟩)
    go_roundw
    case rel => exact ⟨pn, kn, _, cnt1, rfl, rfl, HPT.out, HE.out _, ht.out, HNB.out _⟩
    case measure => rw [(HE.out _).left_eq, HLE.out]; exact hlt1
end Go.Proofs.YtihmbbkppkgcmaaGreatDoor
