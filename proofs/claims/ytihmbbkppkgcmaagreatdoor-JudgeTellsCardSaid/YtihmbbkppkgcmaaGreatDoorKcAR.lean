/-
  Part of a proof: contracts of functions that the claim reaches, and plain lemmas.
-/
import Derived.Test.YtihmbbkppkgcmaaGreatDoorKcAI
import Derived.Test.YtihmbbkppkgcmaaGreatDoorKcAE
import Derived.Test.YtihmbbkppkgcmaaGreatDoorKcAL
import Derived.Test.YtihmbbkppkgcmaaGreatDoorKcAO
set_option linter.all false
namespace Go.Proofs.YtihmbbkppkgcmaaGreatDoor
open Go.RowKit
theorem rowInfo : (Tryz.prog.info? 33).map (fun i => (i.zero, i.size, i.bytes)) = some (some (.agg #[.int .u64 0, .int .u8 0, .string ⟨#[]⟩, .int .i64 0, .int .u8 0, .int .u64 0, .slice none 0 0]), 7, 80) := by kernel_rfl
theorem idInfo : (Tryz.prog.info? 28).map (fun i => (i.zero, i.size, i.bytes)) = some (some (.int .u64 0), 1, 8) := by kernel_rfl
theorem step_append_own {P : Program} {ops : Array Oper} {o : Oper} {a : Act} {w : World} {K : Act → World → Prop} {Q : Exit → Act → World → Prop} {E : Prop} (hgd : o.guard = none) (s x : Operand) (t : TypeId)
 (ho : o.op = .call { callee := .builtin .append, args := #[s, x], argTypes := #[t, t] })
 (base : Nat) (e : TypeId) (i : TypeInfo) (z : Value) (size bytes : Nat) (ht : P.underlying t = some (.slice e)) (hi : P.info? e = some i) (hz : i.zero = some z)
 (hsize : i.size = size) (hby : i.bytes = bytes) (hzs : z.cells.size = size) (hsz : 0 < size)
 (v : Value) (n : Nat) (xs : List Value) (hs : a.eval s = v) (hown : w.ownsRow base e size v n xs)
 (ad : Addr) (m c : Nat) (news : List Value) (hx : a.eval x = .slice (some ad) m c) (hl : news.length = m * size) (hnews : ∀ j u, news[j]? = some u → w.cell? (ad.add j) = some u) (h1 : ∀ u ∈ news, u.oneCell' = true)
 (h63 : n + m ≤ maxLen) (hbytes : (n + m) * bytes ≤ 140737488355328) (hbase : base ≤ w.heap.size)
 (h : ∀ v' w', w'.ownsRow base e size v' (n + m) (xs ++ news) → w.grownBy w' v.ownBlock → (v'.ownBlock = v.ownBlock ∨ v'.ownBlock = some w.heap.size) → K (a.put o.dst v') w') :
 if Region.wanted o (yielded ops a.tmps) = true then Oper.wp P o a w K Q else E := by
 have hw : Region.wanted o (yielded ops a.tmps) = true := by simp [Region.wanted, hgd]
 rw [if_pos hw]
 obtain ⟨v', w', hr, h2, h3, h4, h5⟩ := run_append_own_at (P := P) w base t o.type e i z size bytes ht hi hz hsize hby hzs hsz v n xs hown ad m c news hl hnews h1 h63 hbytes hbase
 unfold Oper.wp execOp
 simp only [ho, resolve, invoke, builtin, Sem.run_bind, Sem.run_pure, Result.andThen_ok, List.map_toArray, List.map_cons, List.map_nil, hs, hx, hr]
 exact h v' w' h2 h3 h5
theorem row_one (r : Hg.Row) : ∀ u ∈ rowCells r (.slice none 0 0), u.oneCell' = true := by
 intro u hu
 simp only [rowCells, List.mem_cons, List.not_mem_nil, or_false] at hu
 rcases hu with rfl | rfl | rfl | rfl | rfl | rfl | rfl <;> rfl
@[reducible] def nodeV (n : Hg.Node) (kv : Value) : Value := .agg #[.int .u8 (n.kind : Int), strV n.name, .int .i64 n.num, .int .u8 (n.type : Int), .int .u64 (n.ref : Int), kv]
theorem node_rows (s : Hg.Rd) (under : Nat) (nd : Hg.Node) (h : s.rows.length = 0) : s.node under nd = { s with rows := s.rows ++ [⟨s.rows.length + 1, nd⟩] } := by
 simp [Hg.Rd.node, h]
theorem node_kid (s : Hg.Rd) (under : Nat) (nd : Hg.Node) (h : 0 < s.rows.length) : s.node under nd = { s with rows := Hg.Rd.addKid (s.rows ++ [⟨s.rows.length + 1, nd⟩]) under (s.rows.length + 1) } := by
 simp only [Hg.Rd.node]
 rw [if_pos (by omega)]
set_option maxHeartbeats 4000000 in
theorem node9_any (rb : Nat) (s : Hg.Rd) (under : Nat) (nd : Hg.Node) (w : World) (hR : RdAt w rb s) (hk : nd.kids = []) (hu : under < s.rows.length ∨ s.rows.length = 0) (hl : s.rows.length ≤ 100000000)
 (hkl : ∀ (k : Nat) (r : Hg.Row), s.rows[k]? = some r → r.node.kids.length ≤ 100000000) :
 Calls Tryz.prog 67 #[.pointer (some ⟨rb, 0, none⟩), .int .i64 (under : Int), nodeV nd (.slice none 0 0)] w fun e w' =>
  e = .returned (.int .i64 (s.rows.length : Int)) ∧ RdAt w' rb (s.node under nd) ∧ Below rb w w' := by
 obtain ⟨i0, hi, hz0, hz1, hz2⟩ := info_parts rowInfo
 obtain ⟨j0, hj, hj0, hj1, hj2⟩ := info_parts idInfo
 have hlt := hR.lt
 obtain ⟨a, c, xs, c4, hown, hnew⟩ := hR.forRow
 have f4 := hR.frozen 4
 have HN := Lib.hid hnew
 have HO := Lib.hid hown
 have HF4 := Lib.hid f4
 clear hR hown hnew
 have hw1 : IntKind.u64.wrap ((s.rows.length : Int) + 1) = (s.rows.length : Int) + 1 := IntWalk.u64_in _ (by omega)
 go_enter Tryz.func67, Tryz.ntmps67
 go_wp2
 have hbx : ∀ j u, [Value.int .u8 (nd.kind : Int), strV nd.name, .int .i64 nd.num, .int .u8 (nd.type : Int), .int .u64 (nd.ref : Int), .slice none 0 0][j]? = some u → (w.alloc (.cells #[.int .u8 (nd.kind : Int), strV nd.name, .int .i64 nd.num, .int .u8 (nd.type : Int), .int .u64 (nd.ref : Int), .slice none 0 0] 31)).cell? ⟨w.heap.size, j, none⟩ = some u := by
  intro j u hj
  rw [cell_of_row _ w.heap.size j _ 31 (0, 0) (heap_alloc_new w _)]
  simpa using hj
 have hbel : Below w.heap.size w (w.alloc (.cells #[.int .u8 (nd.kind : Int), strV nd.name, .int .i64 nd.num, .int .u8 (nd.type : Int), .int .u64 (nd.ref : Int), .slice none 0 0] 31)) := (Below.refl _ _).alloc (Nat.le_refl _) _
 have hsz : w.heap.size + 1 = (w.alloc (.cells #[.int .u8 (nd.kind : Int), strV nd.name, .int .i64 nd.num, .int .u8 (nd.type : Int), .int .u64 (nd.ref : Int), .slice none 0 0] 31)).heap.size := by simp
 generalize World.alloc w _ = W0 at hbx hbel hsz ⊢
 have hHeld : (fun w' => w'.cell? ⟨rb, 4, none⟩ = some (.slice a s.rows.length c) ∧ w'.cell? ⟨w.heap.size, 0, none⟩ = some (.int .u8 (nd.kind : Int)) ∧ w'.cell? ⟨w.heap.size, 1, none⟩ = some (strV nd.name) ∧ w'.cell? ⟨w.heap.size, 2, none⟩ = some (.int .i64 nd.num) ∧ w'.cell? ⟨w.heap.size, 3, none⟩ = some (.int .u8 (nd.type : Int)) ∧ w'.cell? ⟨w.heap.size, 4, none⟩ = some (.int .u64 (nd.ref : Int)) ∧ w'.cell? ⟨w.heap.size, 5, none⟩ = some (.slice none 0 0)) W0.drew := ⟨(hbel.cell hlt).trans c4, hbx 0 _ rfl, hbx 1 _ rfl, hbx 2 _ rfl, hbx 3 _ rfl, hbx 4 _ rfl, hbx 5 _ rfl⟩
 clear hbx c4 f4
 have HSZ := Lib.hid hsz
 clear hsz
 refine wp_region_two (fun w' => w'.cell? ⟨rb, 4, none⟩ = some (.slice a s.rows.length c) ∧ w'.cell? ⟨w.heap.size, 0, none⟩ = some (.int .u8 (nd.kind : Int)) ∧ w'.cell? ⟨w.heap.size, 1, none⟩ = some (strV nd.name) ∧ w'.cell? ⟨w.heap.size, 2, none⟩ = some (.int .i64 nd.num) ∧ w'.cell? ⟨w.heap.size, 3, none⟩ = some (.int .u8 (nd.type : Int)) ∧ w'.cell? ⟨w.heap.size, 4, none⟩ = some (.int .u64 (nd.ref : Int)) ∧ w'.cell? ⟨w.heap.size, 5, none⟩ = some (.slice none 0 0)) 10 (by kernel_rfl) ?_
 refine tk 0 ?_ rfl (by kernel_rfl) (fun _ _ _ h => h) ‹_› ?_ ?_ (tk 1 ?_ rfl (by kernel_rfl) (fun _ _ _ h => h) ‹_› ?_ ?_ (tk 2 ?_ rfl (by kernel_rfl) (fun _ _ _ h => h) ‹_› ?_ ?_ (tk 3 ?_ rfl (by kernel_rfl) (fun _ _ _ h => h) ‹_› ?_ ?_ (tk 4 ?_ rfl (by kernel_rfl) (fun _ _ _ h => h) ‹_› ?_ ?_ (tk 5 ?_ rfl (by kernel_rfl) (fun _ _ _ h => h) ‹_› ?_ ?_ (tk 6 ?_ rfl (by kernel_rfl) (fun _ _ _ h => h) ‹_› ?_ ?_ (tk 7 ?_ rfl (by kernel_rfl) (fun _ _ _ h => h) ‹_› ?_ ?_ ?_)))))))
 all_goals try (first | rfl | ((try simp only [Act.put, sA, sB, sC]); intro w' hSw; (try dsimp only at hSw); go_simp; try with_reducible rfl))
 try simp only [Act.put, sA, sB, sC]
 refine wpAnyT_one (i := 8) rfl (by kernel_rfl) (fun K hK => ?_)
 go_simp
 refine hK.out _ _ (⟨alloc_cell hHeld.1 _, alloc_cell hHeld.2.1 _, alloc_cell hHeld.2.2.1 _, alloc_cell hHeld.2.2.2.1 _, alloc_cell hHeld.2.2.2.2.1 _, alloc_cell hHeld.2.2.2.2.2.1 _, alloc_cell hHeld.2.2.2.2.2.2 _⟩) (fun hHeld => ?_)
 clear hK K
 try simp only [Act.put, sA, sB, sC]
 refine wpAnyT_one (i := 9) rfl (by kernel_rfl) (fun K hK => ?_)
 refine step_append_own rfl (.tmp 19) (.tmp 23) _ rfl (rb + 1) 33 i0 _ 7 80 Tryz.underlying24 hi hz0 hz1 hz2 rfl (by decide) _ _ _ rfl ((own_below HO.out hbel (Nat.le_refl _)).alloc _) ⟨_, 0, none⟩ 1 1 (rowCells ⟨s.rows.length + 1, nd⟩ (.slice none 0 0)) rfl rfl ?_ (row_one _) ?_ ?_ ?_ ?_
 ·
  exact cells_new _ _ _
 ·
  unfold maxLen; omega
 ·
  omega
 ·
  have := hbel.size; simp; omega
 intro v1 W1 hown1 hg hat
 have hne1 : some rb ≠ Value.ownBlock (.slice a s.rows.length c) := fun e => by have := (HO.out.lt rb e.symm).1; omega
 have hne2 : some w.heap.size ≠ Value.ownBlock (.slice a s.rows.length c) := fun e => by have := (HO.out.lt w.heap.size e.symm).2; omega
 refine hK.out _ _ (⟨hg.cell hHeld.1 hne1, hg.cell hHeld.2.1 hne2, hg.cell hHeld.2.2.1 hne2, hg.cell hHeld.2.2.2.1 hne2, hg.cell hHeld.2.2.2.2.1 hne2, hg.cell hHeld.2.2.2.2.2.1 hne2, hg.cell hHeld.2.2.2.2.2.2 hne2⟩) (fun hHeld => ?_)
 clear hK K
 try simp only [Act.put, sA, sB, sC]
 refine wpAnyT_tail (by kernel_rfl) ?_
 simp only [List.drop_succ_cons, List.drop_zero]
 obtain ⟨g1, c1, rfl⟩ := ownsRow_succ hown1
 obtain ⟨hRn, hBn⟩ := HN.out _ W1 _ ⟨s.rows.length + 1, nd⟩ (hbel.drew.alloc hbel.size _) hk hown1 hg hat
 have hc1 := hHeld.1
 have hf1 : W1.frozen? ⟨rb, 4, none⟩ = false := by
  rw [World.frozen?_of_block (hg.block rb (by have := hbel.size; simp; omega) hne1)]
  rw [World.frozen?_of_block (w := w) ((hbel.drew.alloc hbel.size _).block rb hlt)]
  exact HF4.out
 clear hne1 hne2 hHeld hg hat hown1 hbel
 rcases Nat.eq_zero_or_pos s.rows.length with hz | hz
 ·
  have hq1 : decide ((1 : Int) < (s.rows.length : Int) + 1) = false := by simp; omega
  have hnode := Lib.hid (node_rows s under nd hz)
  clear hz hu
  go_wp2
  go_ret
  exact ⟨ret_i64 (by omega), by rw [hnode.out]; exact hRn, hBn⟩
 ·
  have hq1 : decide ((1 : Int) < (s.rows.length : Int) + 1) = true := by simp; omega
  have hq2 : decide (0 < s.rows.length) = true := by simp; omega
  have hnode := Lib.hid (node_kid s under nd hz)
  have hus : under < s.rows.length := by omega
  go_wp2
  clear hc1 hf1
  generalize World.setCell W1 _ _ = W2 at hRn hBn ⊢
  have hl1 : ({ s with rows := s.rows ++ [⟨s.rows.length + 1, nd⟩] } : Hg.Rd).rows.length = s.rows.length + 1 := by simp
  have hr1 : ({ s with rows := s.rows ++ [⟨s.rows.length + 1, nd⟩] } : Hg.Rd).rows[under]? = some s.rows[under] := by simp [List.getElem?_append_left hus]
  have hkr := hkl under s.rows[under] (List.getElem?_eq_getElem hus)
  obtain ⟨g, c2, ka, kc, k4, hg1, hg2, k6, fk, hd1, hd2, hko, hkn⟩ := hRn.forKid hr1
  rw [hl1] at k4 hkn
  have hlt2 := hRn.lt
  have HKN := Lib.hid hkn
  have HKO := Lib.hid hko
  have HD1 := Lib.hid hd1
  have HD2 := Lib.hid hd2
  have hHeld : (fun w' => w'.cell? ⟨rb, 4, none⟩ = some (.slice (some ⟨g, 0, none⟩) (s.rows.length + 1) c2) ∧ w'.cell? ⟨g, under * 7 + 6, none⟩ = some (.slice ka s.rows[under].node.kids.length kc)) W2.drew := ⟨k4, k6⟩
  have hi1 : (0 : Int) ≤ (under : Int) := by omega
  have hi2 : (under : Int) < (s.rows.length : Int) + 1 := by omega
  have hi3 : (under : Int) < ((s.rows.length + 1 : Nat) : Int) := by omega
  clear hRn hko hkn hd1 hd2 hr1 hl1 hq1 hq2 hkl
  generalize s.rows[under] = r at *
  refine wp_region_two (fun w' => w'.cell? ⟨rb, 4, none⟩ = some (.slice (some ⟨g, 0, none⟩) (s.rows.length + 1) c2) ∧ w'.cell? ⟨g, under * 7 + 6, none⟩ = some (.slice ka r.node.kids.length kc)) 17 (by kernel_rfl) ?_
  refine tk 0 ?_ rfl (by kernel_rfl) (fun _ _ _ h => h) ‹_› ?_ ?_ (tk 1 ?_ rfl (by kernel_rfl) (fun _ _ _ h => h) ‹_› ?_ ?_ (tk 2 ?_ rfl (by kernel_rfl) (fun _ _ _ h => h) ‹_› ?_ ?_ (tk 3 ?_ rfl (by kernel_rfl) (fun _ _ _ h => h) ‹_› ?_ ?_ (tk 4 ?_ rfl (by kernel_rfl) (fun _ _ _ h => h) ‹_› ?_ ?_ (tk 5 ?_ rfl (by kernel_rfl) (fun _ _ _ h => h) ‹_› ?_ ?_ (tk 6 ?_ rfl (by kernel_rfl) (fun _ _ _ h => h) ‹_› ?_ ?_ (tk 7 ?_ rfl (by kernel_rfl) (fun _ _ _ h => h) ‹_› ?_ ?_ (tk 8 ?_ rfl (by kernel_rfl) (fun _ _ _ h => h) ‹_› ?_ ?_ (tk 9 ?_ rfl (by kernel_rfl) (fun _ _ _ h => h) ‹_› ?_ ?_ (tk 10 ?_ rfl (by kernel_rfl) (fun _ _ _ h => h) ‹_› ?_ ?_ (tk 11 ?_ rfl (by kernel_rfl) (fun _ _ _ h => h) ‹_› ?_ ?_ (tk 12 ?_ rfl (by kernel_rfl) (fun _ _ _ h => h) ‹_› ?_ ?_ (tk 13 ?_ rfl (by kernel_rfl) (fun _ _ _ h => h) ‹_› ?_ ?_ (tk 14 ?_ rfl (by kernel_rfl) (fun _ _ _ h => h) ‹_› ?_ ?_ ?_))))))))))))))
  all_goals try (first | rfl | ((try simp only [Act.put, sA, sB, sC]); intro w' hSw; (try dsimp only at hSw); go_simp; try with_reducible rfl))
  try simp only [Act.put, sA, sB, sC]
  refine wpAnyT_one (i := 15) rfl (by kernel_rfl) (fun K hK => ?_)
  go_simp
  refine hK.out _ _ (⟨alloc_cell hHeld.1 _, alloc_cell hHeld.2 _⟩) (fun hHeld => ?_)
  clear hK K
  try simp only [Act.put, sA, sB, sC]
  refine wpAnyT_one (i := 16) rfl (by kernel_rfl) (fun K hK => ?_)
  refine step_append_own rfl (.tmp 42) (.tmp 44) _ rfl (rb + 1) 28 j0 _ 1 8 Tryz.underlying29 hj hj0 hj1 hj2 rfl (by decide) _ _ _ rfl (HKO.out.alloc _) ⟨_, 0, none⟩ 1 1 [idV (s.rows.length + 1)] rfl rfl ?_ (by intro u hu; simp only [List.mem_singleton] at hu; subst hu; rfl) ?_ ?_ ?_ ?_
  ·
   exact cells_new _ _ _
  ·
   unfold maxLen; omega
  ·
   omega
  ·
   simp; omega
  intro v3 W3 hown3 hg3 hat3
  refine hK.out _ _ (⟨hg3.cell hHeld.1 (fun e => HD2.out e.symm), hg3.cell hHeld.2 (fun e => HD1.out e.symm)⟩) (fun hHeld => ?_)
  clear hK K
  try simp only [Act.put, sA, sB, sC]
  refine wpAnyT_tail (by kernel_rfl) ?_
  simp only [List.drop_succ_cons, List.drop_zero]
  obtain ⟨g3, c3, rfl⟩ := ownsRow_succ hown3
  obtain ⟨hR3, hB3, hc4, ⟨u6, hc6⟩, hf6⟩ := HKN.out _ W3 _ (s.rows.length + 1) ((Below.refl _ W2).drew.alloc (by simp) _) hown3 hg3 hat3
  have hne1 : ¬ rb = g := by omega
  have hne2 : ¬ g = rb := by omega
  clear hHeld hown3 hg3 hat3 HKN HKO HD1 HD2 k4 k6 fk
  go_wp2
  go_ret
  exact ⟨ret_i64 (by omega), by rw [hnode.out]; exact hR3, hBn.trans hB3⟩
end Go.Proofs.YtihmbbkppkgcmaaGreatDoor
