/-
  Part of a proof: contracts of functions that the claim reaches, and plain lemmas.
-/
import Derived.Test.YtihmbbkppkgcmaaGreatDoorKcBP
set_option linter.all false
namespace Go.Proofs.YtihmbbkppkgcmaaGreatDoor
open Go.RowKit
@[reducible] def prO (p1 : Option Addr) (n1 q1 : Nat) (p2 : Option Addr) (n2 q2 : Nat) (kn : Bool) : Obj := .cells #[.slice p1 n1 q1, .slice p2 n2 q2, .bool kn] 47 (0, 0)
structure JtS (w2 : World) (b1 b2 nb pb qb : Nat) (o u : Opn) (nd : Hg.Node) (nk : Value) (p1 p2 p3 p4 : Option Addr) (q1 q2 q3 q4 : Nat) (ws ws' : List Nat) (cs cs' : List Cl) (kn kn' : Bool) (W : World) : Prop where
 bel : Below w2.heap.size w2 W
 h1 : W.heap[b1]? = some (opO o)
 h2 : W.heap[b2]? = some (opO u)
 hn : W.heap[nb]? = some (.cells #[.int .u8 (nd.kind : Int), strV nd.name, .int .i64 nd.num, .int .u8 (nd.type : Int), .int .u64 (nd.ref : Int), nk] 31 (0, 0))
 hp : W.heap[pb]? = some (prO p1 ws.length q1 p2 cs.length q2 kn)
 hq : W.heap[qb]? = some (prO p3 ws'.length q3 p4 cs'.length q4 kn')
 s1 : Sl W W.heap.size (.slice p1 ws.length q1) ws.length (ws.map idV)
 s2 : Sl W W.heap.size (.slice p2 cs.length q2) cs.length (cs.flatMap clCells)
 s3 : Sl W W.heap.size (.slice p3 ws'.length q3) ws'.length (ws'.map idV)
 s4 : Sl W W.heap.size (.slice p4 cs'.length q4) cs'.length (cs'.flatMap clCells)
theorem JtS.keep {w2 : World} {b1 b2 nb pb qb : Nat} {o u : Opn} {nd : Hg.Node} {nk : Value} {p1 p2 p3 p4 : Option Addr} {q1 q2 q3 q4 : Nat} {ws ws' : List Nat} {cs cs' : List Cl} {kn kn' : Bool} {W W' : World}
 (h : JtS w2 b1 b2 nb pb qb o u nd nk p1 p2 p3 p4 q1 q2 q3 q4 ws ws' cs cs' kn kn' W) (hb : Below W.heap.size W W') : JtS w2 b1 b2 nb pb qb o u nd nk p1 p2 p3 p4 q1 q2 q3 q4 ws ws' cs cs' kn kn' W' :=
 ⟨h.bel.trans (hb.mono h.bel.size), blk h.h1 hb, blk h.h2 hb, blk h.hn hb, blk h.hp hb, blk h.hq hb, (h.s1.below hb (Nat.le_refl _)).more hb.size, (h.s2.below hb (Nat.le_refl _)).more hb.size, (h.s3.below hb (Nat.le_refl _)).more hb.size, (h.s4.below hb (Nat.le_refl _)).more hb.size⟩
theorem JtS.cells {w2 : World} {b1 b2 nb pb qb : Nat} {o u : Opn} {nd : Hg.Node} {nk : Value} {p1 p2 p3 p4 : Option Addr} {q1 q2 q3 q4 : Nat} {ws ws' : List Nat} {cs cs' : List Cl} {kn kn' : Bool} {W : World}
 (h : JtS w2 b1 b2 nb pb qb o u nd nk p1 p2 p3 p4 q1 q2 q3 q4 ws ws' cs cs' kn kn' W) :
 (W.cell? ⟨b1, 0, none⟩ = some (.int .u8 (o.k : Int)) ∧ W.cell? ⟨b1, 1, none⟩ = some (.int .u64 (o.a : Int)) ∧ W.cell? ⟨b1, 2, none⟩ = some (.int .u64 (o.b : Int)) ∧ W.cell? ⟨b1, 3, none⟩ = some (strV o.n)) ∧
 (W.cell? ⟨b2, 0, none⟩ = some (.int .u8 (u.k : Int)) ∧ W.cell? ⟨b2, 1, none⟩ = some (.int .u64 (u.a : Int)) ∧ W.cell? ⟨b2, 2, none⟩ = some (.int .u64 (u.b : Int)) ∧ W.cell? ⟨b2, 3, none⟩ = some (strV u.n)) ∧
 (W.cell? ⟨nb, 0, none⟩ = some (.int .u8 (nd.kind : Int)) ∧ W.cell? ⟨nb, 1, none⟩ = some (strV nd.name)) ∧
 (W.cell? ⟨pb, 0, none⟩ = some (.slice p1 ws.length q1) ∧ W.cell? ⟨pb, 1, none⟩ = some (.slice p2 cs.length q2) ∧ W.cell? ⟨pb, 2, none⟩ = some (.bool kn)) ∧
 (W.cell? ⟨qb, 0, none⟩ = some (.slice p3 ws'.length q3) ∧ W.cell? ⟨qb, 1, none⟩ = some (.slice p4 cs'.length q4) ∧ W.cell? ⟨qb, 2, none⟩ = some (.bool kn')) := by
 have a := fun i => cell_of_row W nb i _ _ (0, 0) h.hn
 have b := fun i => cell_of_row W pb i _ _ (0, 0) h.hp
 have c := fun i => cell_of_row W qb i _ _ (0, 0) h.hq
 have a0 := a 0; have a1 := a 1; have b0 := b 0; have b1 := b 1; have b2 := b 2; have c0 := c 0; have c1 := c 1; have c2 := c 2
 simp at a0 a1 b0 b1 b2 c0 c1 c2
 exact ⟨(four h.h1).1, (four h.h2).1, ⟨a0, a1⟩, ⟨b0, b1, b2⟩, ⟨c0, c1, c2⟩⟩
def anyB {α : Type} [DecidableEq α] (b : Bool) (l m : List α) (k : Nat) : Bool := b || decide (∃ x ∈ l.take k, x ∈ m)
theorem anyB_zero {α : Type} [DecidableEq α] (b : Bool) (l m : List α) : anyB b l m 0 = b := by simp [anyB]
theorem anyB_succ {α : Type} [DecidableEq α] {b : Bool} {l m : List α} {k : Nat} {x : α} (h : l[k]? = some x) : anyB b l m (k + 1) = (anyB b l m k || decide (x ∈ m)) := by
 unfold anyB
 rw [take_one h, Bool.or_assoc]
 congr 1
 rw [Bool.eq_iff_iff]
 simp only [decide_eq_true_eq, Bool.or_eq_true, List.mem_append, List.mem_singleton]
 constructor
 ·
  rintro ⟨y, hy | rfl, h2⟩
  ·
   exact .inl ⟨y, hy, h2⟩
  ·
   exact .inr h2
 ·
  rintro (⟨y, h1, h2⟩ | h2)
  ·
   exact ⟨y, .inl h1, h2⟩
  ·
   exact ⟨x, .inr rfl, h2⟩
theorem anyB_all (ws ws' : List Nat) (cs cs' : List Cl) (kn kn' : Bool) : anyB (anyB (!kn || !kn') ws ws' ws.length) cs cs' cs.length = meetsB ws ws' cs cs' kn kn' := by
 unfold anyB meetsB
 rw [List.take_length, List.take_length]
 rw [Bool.eq_iff_iff]
 cases kn <;> cases kn' <;> simp
theorem sl_op {W : World} {b : Nat} {o : Opn} {t : TypeId} (h : W.heap[b]? = some (.cells #[.int .u8 (o.k : Int), .int .u64 (o.a : Int), .int .u64 (o.b : Int), strV o.n] t (0, 0))) : Sl W W.heap.size (.slice (some ⟨b, 0, none⟩) 1 1) [o].length ([o].flatMap opCells) := by
 refine ⟨_, _, rfl, fun _ => ⟨b, 0, rfl, blk_lt h, fun j hj => ?_⟩⟩
 rw [cell_of_row W b (0 + j) _ _ (0, 0) h]
 have hj4 : j < 4 := by simpa [opCells] using hj
 rcases j with _ | _ | _ | _ | j
 ·
  rfl
 ·
  rfl
 ·
  rfl
 ·
  rfl
 ·
  omega
@[reducible] def CkS (wA : World) (B b1 nb r : Nat) (nm1 : List UInt8) (o : Opn) (nd : Hg.Node) : World → Prop := fun w' =>
 Below wA.heap.size wA w' ∧ w'.cell? ⟨B, 0, none⟩ = some (.int .u64 (r : Int)) ∧ w'.cell? ⟨B, 1, none⟩ = some (strV nm1) ∧ w'.cell? ⟨b1, 1, none⟩ = some (.int .u64 (o.a : Int)) ∧ w'.cell? ⟨b1, 3, none⟩ = some (strV o.n) ∧ w'.cell? ⟨nb, 1, none⟩ = some (strV nd.name)
theorem CkS.keep {wA W W' : World} {B b1 nb r : Nat} {nm1 : List UInt8} {o : Opn} {nd : Hg.Node} (hB : B < wA.heap.size ∧ b1 < wA.heap.size ∧ nb < wA.heap.size) (h : CkS wA B b1 nb r nm1 o nd W) (hb : Below W.heap.size W W') : CkS wA B b1 nb r nm1 o nd W' :=
 have l1 := Nat.lt_of_lt_of_le hB.1 h.1.size
 have l2 := Nat.lt_of_lt_of_le hB.2.1 h.1.size
 have l3 := Nat.lt_of_lt_of_le hB.2.2 h.1.size
 ⟨h.1.trans (hb.mono h.1.size), (hb.cell l1).trans h.2.1, (hb.cell l1).trans h.2.2.1, (hb.cell l2).trans h.2.2.2.1, (hb.cell l2).trans h.2.2.2.2.1, (hb.cell l3).trans h.2.2.2.2.2⟩
set_option maxHeartbeats 100000000 in
set_option maxRecDepth 100000 in
theorem judgeTells_any (s : List UInt8) (k a : Nat) (nm : List UInt8) (raw : Bool) (k' a' : Nat) (nm' : List UInt8) (raw' : Bool) (kd : Nat) (w : World) (hs : s.length ≤ 1000000000000000) (hk : k ≤ 255) (ha : a ≤ 65535) (hnm : nm.length ≤ 1000000000000000) (hk' : k' ≤ 255) (ha' : a' ≤ 65535) (hnm' : nm'.length ≤ 1000000000000000) (hkd : kd ≤ 255) (hT : TabOk w) :
 Calls Tryz.prog 5 #[.string ⟨s.toArray⟩, .agg #[.int .u8 (k : Int), .int .u16 (a : Int), strV nm, .bool raw], .agg #[.int .u8 (k' : Int), .int .u16 (a' : Int), strV nm', .bool raw'], .int .u8 (kd : Int)] w fun e w' => e = .returned (.bool true) ∧ Below w.heap.size w w' := by
 have hbp : Below w.heap.size w ((w.alloc (.cells #[.int .u8 (k : Int), .int .u16 (a : Int), strV nm, .bool raw] 41)).alloc (.cells #[.int .u8 (k' : Int), .int .u16 (a' : Int), strV nm', .bool raw'] 41)) := ((Below.refl _ _).alloc (Nat.le_refl _) _).alloc (by simp) _
 have hhp := heap_alloc2_old w (.cells #[.int .u8 (k : Int), .int .u16 (a : Int), strV nm, .bool raw] 41) (.cells #[.int .u8 (k' : Int), .int .u16 (a' : Int), strV nm', .bool raw'] 41)
 have hhq := heap_alloc2_new w (.cells #[.int .u8 (k : Int), .int .u16 (a : Int), strV nm, .bool raw] 41) (.cells #[.int .u8 (k' : Int), .int .u16 (a' : Int), strV nm', .bool raw'] 41)
 have hT0 := hT.below hbp hT.lt
 have HTT := Lib.hid hT
 clear hT
 go_enter Tryz.func5, Tryz.ntmps5
 go_upto_region 1 with fail
 generalize World.alloc (World.alloc w _) _ = W0 at hbp hhp hhq hT0 ⊢
 generalize hpb : w.heap.size = pb at hbp hhp hhq ⊢
 have TA := Lib.hid (awake_any W0 hT0)
 have TPR := Lib.hid (fun W => program_any s W hs)
 have HPB := Lib.hid hpb
 have HBP := Lib.hid hbp
 have HHP := Lib.hid hhp
 have HHQ := Lib.hid hhq
 clear hpb hbp hhp hhq hT0
 go_wp2_with fail
 refine TA.out.mono ?_
 rintro e w1 ⟨rfl, hb1⟩
 have HB1 := Lib.hid hb1
 clear hb1 TA
 go_upto_region 3 with fail
 go_wp2_with fail
 refine (TPR.out w1).mono ?_
 rintro e w2 ⟨ab, mb, c, v, x, hxo, rfl, hx2, hA2, hb2⟩
 have hb02 := HB1.out.trans (hb2.mono HB1.out.size)
 have hh2 := blk HHP.out hb02
 have hg2 := blk HHQ.out hb02
 have hl2 : pb < w2.heap.size := blk_lt hh2
 have hl2' : pb + 1 < w2.heap.size := blk_lt hg2
 have HB2 := Lib.hid (show Below w.heap.size w w2 by rw [HPB.out]; exact HBP.out.trans (hb02.mono (Nat.le_of_lt (blk_lt HHP.out))))
 rw [hxo.arena] at hA2
 have HA2 := Lib.hid hA2
 have HO := Lib.hid (show ArOk (tabM x) by rw [← hxo.arena]; exact arok_arena hxo)
 have HXO := Lib.hid hxo
 obtain ⟨va, vc, rfl⟩ := hx2.form
 obtain ⟨⟨c0, c1, c2, c3⟩, cf⟩ := four hh2
 obtain ⟨⟨d0, d1, d2, d3⟩, df⟩ := four hg2
 have TP1 := Lib.hid (plan_po x hxo w2 _ hx2 k a nm raw hk ha hnm)
 have TP2 := Lib.hid (plan_po x hxo w2 _ hx2 k' a' nm' raw' hk' ha' hnm')
 have HS := Lib.hid (show ∀ W W', PlS w2 pb k a nm raw k' a' nm' raw' W → Below W.heap.size W W' → PlS w2 pb k a nm raw k' a' nm' raw' W' from fun W W' ⟨h, e0, e1, e2, e3, f0, f1, f2, f3⟩ hb =>
  have l1 := Nat.lt_of_lt_of_le hl2 h.size
  have l2 := Nat.lt_of_lt_of_le hl2' h.size
  ⟨h.trans (hb.mono h.size), (hb.cell l1).trans e0, (hb.cell l1).trans e1, (hb.cell l1).trans e2, (hb.cell l1).trans e3, (hb.cell l2).trans f0, (hb.cell l2).trans f1, (hb.cell l2).trans f2, (hb.cell l2).trans f3⟩)
 clear hx2 hA2 hxo hb2 hb02 hh2 hg2 TPR cf df
 go_upto_region 4 with fail
 have hHeld : PlS w2 pb k a nm raw k' a' nm' raw' w2.drew := ⟨(Below.refl _ _).drew, c0, c1, c2, c3, d0, d1, d2, d3⟩
 have HC3 := Lib.hid c3
 clear c0 c1 c2 c3 d0 d1 d2 d3
 go_cut [11, 12] from 34 (fun v11 v12 wx => ∃ (b1 b2 : Nat) (o u : Opn), v11 = .pointer (some ⟨b1, 0, none⟩) ∧ v12 = .pointer (some ⟨b2, 0, none⟩) ∧ PlEnd w2 x b1 b2 o u wx)
 case first =>
  refine wp_region_two (PlS w2 pb k a nm raw k' a' nm' raw') 8 (by kernel_rfl) ?_
  generalize w2.drew = wD at hHeld ⊢
  refine tk 0 ?_ rfl (by kernel_rfl) (fun _ _ _ h => h) ‹_› (by rfl) ?_ ?_
  rotate_left
  · (intro w' hSw; (try dsimp only [PlS] at hSw); go_simp; try with_reducible rfl)
  try simp only [Act.put, sA, sB, sC, sD, sE, sF]
  refine tk 1 ?_ rfl (by kernel_rfl) (fun _ _ _ h => h) ‹_› (by rfl) ?_ ?_
  rotate_left
  · (intro w' hSw; (try dsimp only [PlS] at hSw); go_simp; try with_reducible rfl)
  try simp only [Act.put, sA, sB, sC, sD, sE, sF]
  refine tk 3 ?_ rfl (by kernel_rfl) (fun _ _ _ h => h) ‹_› (by rfl) ?_ ?_
  rotate_left
  · (intro w' hSw; (try dsimp only [PlS] at hSw); go_simp; try with_reducible rfl)
  try simp only [Act.put, sA, sB, sC, sD, sE, sF]
  refine tk 4 ?_ rfl (by kernel_rfl) (fun _ _ _ h => h) ‹_› (by rfl) ?_ ?_
  rotate_left
  · (intro w' hSw; (try dsimp only [PlS] at hSw); go_simp; try with_reducible rfl)
  try simp only [Act.put, sA, sB, sC, sD, sE, sF]
  refine wpAnyT_three (i := 2) (j := 6) (l := 7) rfl rfl rfl (by kernel_rfl) (fun K hK => ?_) (fun K hK => ?_) (fun K hK => ?_)
  ·
   go_simp
   refine (TP1.out wD hHeld.1).mono ?_
   rintro e w32 ⟨o1, rfl, po1, hb32⟩
   have PO1 := Lib.hid po1
   have HB32 := Lib.hid hb32
   clear po1 hb32
   refine hK.out _ _ (HS.out _ _ hHeld HB32.out) (fun hHeld => ?_)
   clear hK K
   try simp only [Act.put, sA, sB, sC, sD, sE, sF]
   refine wpAnyT_three (i := 5) (j := 6) (l := 7) rfl rfl rfl (by kernel_rfl) (fun K hK => ?_) (fun K hK => ?_) (fun K hK => ?_)
   ·
    go_simp
    refine (TP2.out w32 hHeld.1).mono ?_
    rintro e w35 ⟨o2, rfl, po2, hb35⟩
    have PO2 := Lib.hid po2
    have HB35 := Lib.hid hb35
    clear po2 hb35
    refine hK.out _ _ (HS.out _ _ hHeld HB35.out) (fun hHeld => ?_)
    clear hK K
    try simp only [Act.put, sA, sB, sC, sD, sE, sF]
    refine wpAnyT_two (i := 6) (j := 7) rfl rfl (by kernel_rfl) (fun K hK => ?_) (fun K hK => ?_)
    ·
     go_simp
     generalize hWa : World.alloc _ _ = w36
     obtain ⟨hBa, hha, hza⟩ := new_alloc hWa
     have HB36 := Lib.hid hBa
     have HH6 := Lib.hid hha
     have HL6 := Lib.hid (show w2.heap.size ≤ w35.heap.size from hHeld.1.size)
     clear hWa hBa hha hza
     refine hK.out _ _ (HS.out _ _ hHeld HB36.out) (fun hHeld => ?_)
     clear hK K
     try simp only [Act.put, sA, sB, sC, sD, sE, sF]
     refine wpAnyT_one (i := 7) rfl (by kernel_rfl) (fun K hK => ?_)
     go_simp
     generalize hWa : World.alloc _ _ = w37
     obtain ⟨hBa, hha, hza⟩ := new_alloc hWa
     have HB37 := Lib.hid hBa
     have HH7 := Lib.hid hha
     have HL7 := Lib.hid (show w2.heap.size ≤ w36.heap.size from hHeld.1.size)
     clear hWa hBa hha hza
     refine hK.out _ _ (HS.out _ _ hHeld HB37.out) (fun hHeld => ?_)
     clear hK K
     try simp only [Act.put, sA, sB, sC, sD, sE, sF]
     refine wpAnyT_tail (by kernel_rfl) ?_
     simp only [List.drop_succ_cons, List.drop_zero]
     have h6 : w37.heap[w35.heap.size]? = _ := (blk HH6.out HB37.out)
     have h7 : w37.heap[w36.heap.size]? = _ := HH7.out
     have hne : ¬ w35.heap.size = w36.heap.size := Nat.ne_of_lt (blk_lt HH6.out)
     have hne' := Ne.symm hne
     obtain ⟨⟨p0, p1, p2, p3⟩, pf⟩ := four h6
     obtain ⟨⟨q0, q1, q2, q3⟩, qf⟩ := four h7
     have HEND := Lib.hid (pl_end PO1.out PO2.out hne HL6.out HL7.out hHeld.1 h6 h7)
     clear h6 h7 hHeld
     go_wp2
     go_meet
     case rel => exact ⟨_, _, _, _, rfl, rfl, HEND.out⟩
    ·
     go_simp
     generalize hWa : World.alloc _ _ = w37
     obtain ⟨hBa, hha, hza⟩ := new_alloc hWa
     have HB37 := Lib.hid hBa
     have HH7 := Lib.hid hha
     have HL7 := Lib.hid (show w2.heap.size ≤ w35.heap.size from hHeld.1.size)
     clear hWa hBa hha hza
     refine hK.out _ _ (HS.out _ _ hHeld HB37.out) (fun hHeld => ?_)
     clear hK K
     try simp only [Act.put, sA, sB, sC, sD, sE, sF]
     refine wpAnyT_one (i := 6) rfl (by kernel_rfl) (fun K hK => ?_)
     go_simp
     generalize hWa : World.alloc _ _ = w36
     obtain ⟨hBa, hha, hza⟩ := new_alloc hWa
     have HB36 := Lib.hid hBa
     have HH6 := Lib.hid hha
     have HL6 := Lib.hid (show w2.heap.size ≤ w37.heap.size from hHeld.1.size)
     clear hWa hBa hha hza
     refine hK.out _ _ (HS.out _ _ hHeld HB36.out) (fun hHeld => ?_)
     clear hK K
     try simp only [Act.put, sA, sB, sC, sD, sE, sF]
     refine wpAnyT_tail (by kernel_rfl) ?_
     simp only [List.drop_succ_cons, List.drop_zero]
     have h6 : w36.heap[w37.heap.size]? = _ := HH6.out
     have h7 : w36.heap[w35.heap.size]? = _ := (blk HH7.out HB36.out)
     have hne : ¬ w37.heap.size = w35.heap.size := Nat.ne_of_gt (blk_lt HH7.out)
     have hne' := Ne.symm hne
     obtain ⟨⟨p0, p1, p2, p3⟩, pf⟩ := four h6
     obtain ⟨⟨q0, q1, q2, q3⟩, qf⟩ := four h7
     have HEND := Lib.hid (pl_end PO1.out PO2.out hne HL6.out HL7.out hHeld.1 h6 h7)
     clear h6 h7 hHeld
     go_wp2
     go_meet
     case rel => exact ⟨_, _, _, _, rfl, rfl, HEND.out⟩
   ·
    go_simp
    generalize hWa : World.alloc _ _ = w36
    obtain ⟨hBa, hha, hza⟩ := new_alloc hWa
    have HB36 := Lib.hid hBa
    have HH6 := Lib.hid hha
    have HL6 := Lib.hid (show w2.heap.size ≤ w32.heap.size from hHeld.1.size)
    clear hWa hBa hha hza
    refine hK.out _ _ (HS.out _ _ hHeld HB36.out) (fun hHeld => ?_)
    clear hK K
    try simp only [Act.put, sA, sB, sC, sD, sE, sF]
    refine wpAnyT_two (i := 5) (j := 7) rfl rfl (by kernel_rfl) (fun K hK => ?_) (fun K hK => ?_)
    ·
     go_simp
     refine (TP2.out w36 hHeld.1).mono ?_
     rintro e w35 ⟨o2, rfl, po2, hb35⟩
     have PO2 := Lib.hid po2
     have HB35 := Lib.hid hb35
     clear po2 hb35
     refine hK.out _ _ (HS.out _ _ hHeld HB35.out) (fun hHeld => ?_)
     clear hK K
     try simp only [Act.put, sA, sB, sC, sD, sE, sF]
     refine wpAnyT_one (i := 7) rfl (by kernel_rfl) (fun K hK => ?_)
     go_simp
     generalize hWa : World.alloc _ _ = w37
     obtain ⟨hBa, hha, hza⟩ := new_alloc hWa
     have HB37 := Lib.hid hBa
     have HH7 := Lib.hid hha
     have HL7 := Lib.hid (show w2.heap.size ≤ w35.heap.size from hHeld.1.size)
     clear hWa hBa hha hza
     refine hK.out _ _ (HS.out _ _ hHeld HB37.out) (fun hHeld => ?_)
     clear hK K
     try simp only [Act.put, sA, sB, sC, sD, sE, sF]
     refine wpAnyT_tail (by kernel_rfl) ?_
     simp only [List.drop_succ_cons, List.drop_zero]
     have h6 : w37.heap[w32.heap.size]? = _ := (blk (blk HH6.out HB35.out) HB37.out)
     have h7 : w37.heap[w35.heap.size]? = _ := HH7.out
     have hne : ¬ w32.heap.size = w35.heap.size := Nat.ne_of_lt (blk_lt (blk HH6.out HB35.out))
     have hne' := Ne.symm hne
     obtain ⟨⟨p0, p1, p2, p3⟩, pf⟩ := four h6
     obtain ⟨⟨q0, q1, q2, q3⟩, qf⟩ := four h7
     have HEND := Lib.hid (pl_end PO1.out PO2.out hne HL6.out HL7.out hHeld.1 h6 h7)
     clear h6 h7 hHeld
     go_wp2
     go_meet
     case rel => exact ⟨_, _, _, _, rfl, rfl, HEND.out⟩
    ·
     go_simp
     generalize hWa : World.alloc _ _ = w37
     obtain ⟨hBa, hha, hza⟩ := new_alloc hWa
     have HB37 := Lib.hid hBa
     have HH7 := Lib.hid hha
     have HL7 := Lib.hid (show w2.heap.size ≤ w36.heap.size from hHeld.1.size)
     clear hWa hBa hha hza
     refine hK.out _ _ (HS.out _ _ hHeld HB37.out) (fun hHeld => ?_)
     clear hK K
     try simp only [Act.put, sA, sB, sC, sD, sE, sF]
     refine wpAnyT_one (i := 5) rfl (by kernel_rfl) (fun K hK => ?_)
     go_simp
     refine (TP2.out w37 hHeld.1).mono ?_
     rintro e w35 ⟨o2, rfl, po2, hb35⟩
     have PO2 := Lib.hid po2
     have HB35 := Lib.hid hb35
     clear po2 hb35
     refine hK.out _ _ (HS.out _ _ hHeld HB35.out) (fun hHeld => ?_)
     clear hK K
     try simp only [Act.put, sA, sB, sC, sD, sE, sF]
     refine wpAnyT_tail (by kernel_rfl) ?_
     simp only [List.drop_succ_cons, List.drop_zero]
     have h6 : w35.heap[w32.heap.size]? = _ := (blk (blk HH6.out HB37.out) HB35.out)
     have h7 : w35.heap[w36.heap.size]? = _ := (blk HH7.out HB35.out)
     have hne : ¬ w32.heap.size = w36.heap.size := Nat.ne_of_lt (blk_lt HH6.out)
     have hne' := Ne.symm hne
     obtain ⟨⟨p0, p1, p2, p3⟩, pf⟩ := four h6
     obtain ⟨⟨q0, q1, q2, q3⟩, qf⟩ := four h7
     have HEND := Lib.hid (pl_end PO1.out PO2.out hne HL6.out HL7.out hHeld.1 h6 h7)
     clear h6 h7 hHeld
     go_wp2
     go_meet
     case rel => exact ⟨_, _, _, _, rfl, rfl, HEND.out⟩
   ·
    go_simp
    generalize hWa : World.alloc _ _ = w37
    obtain ⟨hBa, hha, hza⟩ := new_alloc hWa
    have HB37 := Lib.hid hBa
    have HH7 := Lib.hid hha
    have HL7 := Lib.hid (show w2.heap.size ≤ w32.heap.size from hHeld.1.size)
    clear hWa hBa hha hza
    refine hK.out _ _ (HS.out _ _ hHeld HB37.out) (fun hHeld => ?_)
    clear hK K
    try simp only [Act.put, sA, sB, sC, sD, sE, sF]
    refine wpAnyT_two (i := 5) (j := 6) rfl rfl (by kernel_rfl) (fun K hK => ?_) (fun K hK => ?_)
    ·
     go_simp
     refine (TP2.out w37 hHeld.1).mono ?_
     rintro e w35 ⟨o2, rfl, po2, hb35⟩
     have PO2 := Lib.hid po2
     have HB35 := Lib.hid hb35
     clear po2 hb35
     refine hK.out _ _ (HS.out _ _ hHeld HB35.out) (fun hHeld => ?_)
     clear hK K
     try simp only [Act.put, sA, sB, sC, sD, sE, sF]
     refine wpAnyT_one (i := 6) rfl (by kernel_rfl) (fun K hK => ?_)
     go_simp
     generalize hWa : World.alloc _ _ = w36
     obtain ⟨hBa, hha, hza⟩ := new_alloc hWa
     have HB36 := Lib.hid hBa
     have HH6 := Lib.hid hha
     have HL6 := Lib.hid (show w2.heap.size ≤ w35.heap.size from hHeld.1.size)
     clear hWa hBa hha hza
     refine hK.out _ _ (HS.out _ _ hHeld HB36.out) (fun hHeld => ?_)
     clear hK K
     try simp only [Act.put, sA, sB, sC, sD, sE, sF]
     refine wpAnyT_tail (by kernel_rfl) ?_
     simp only [List.drop_succ_cons, List.drop_zero]
     have h6 : w36.heap[w35.heap.size]? = _ := HH6.out
     have h7 : w36.heap[w32.heap.size]? = _ := (blk (blk HH7.out HB35.out) HB36.out)
     have hne : ¬ w35.heap.size = w32.heap.size := Nat.ne_of_gt (blk_lt (blk HH7.out HB35.out))
     have hne' := Ne.symm hne
     obtain ⟨⟨p0, p1, p2, p3⟩, pf⟩ := four h6
     obtain ⟨⟨q0, q1, q2, q3⟩, qf⟩ := four h7
     have HEND := Lib.hid (pl_end PO1.out PO2.out hne HL6.out HL7.out hHeld.1 h6 h7)
     clear h6 h7 hHeld
     go_wp2
     go_meet
     case rel => exact ⟨_, _, _, _, rfl, rfl, HEND.out⟩
    ·
     go_simp
     generalize hWa : World.alloc _ _ = w36
     obtain ⟨hBa, hha, hza⟩ := new_alloc hWa
     have HB36 := Lib.hid hBa
     have HH6 := Lib.hid hha
     have HL6 := Lib.hid (show w2.heap.size ≤ w37.heap.size from hHeld.1.size)
     clear hWa hBa hha hza
     refine hK.out _ _ (HS.out _ _ hHeld HB36.out) (fun hHeld => ?_)
     clear hK K
     try simp only [Act.put, sA, sB, sC, sD, sE, sF]
     refine wpAnyT_one (i := 5) rfl (by kernel_rfl) (fun K hK => ?_)
     go_simp
     refine (TP2.out w36 hHeld.1).mono ?_
     rintro e w35 ⟨o2, rfl, po2, hb35⟩
     have PO2 := Lib.hid po2
     have HB35 := Lib.hid hb35
     clear po2 hb35
     refine hK.out _ _ (HS.out _ _ hHeld HB35.out) (fun hHeld => ?_)
     clear hK K
     try simp only [Act.put, sA, sB, sC, sD, sE, sF]
     refine wpAnyT_tail (by kernel_rfl) ?_
     simp only [List.drop_succ_cons, List.drop_zero]
     have h6 : w35.heap[w37.heap.size]? = _ := (blk HH6.out HB35.out)
     have h7 : w35.heap[w32.heap.size]? = _ := (blk (blk HH7.out HB36.out) HB35.out)
     have hne : ¬ w37.heap.size = w32.heap.size := Nat.ne_of_gt (blk_lt HH7.out)
     have hne' := Ne.symm hne
     obtain ⟨⟨p0, p1, p2, p3⟩, pf⟩ := four h6
     obtain ⟨⟨q0, q1, q2, q3⟩, qf⟩ := four h7
     have HEND := Lib.hid (pl_end PO1.out PO2.out hne HL6.out HL7.out hHeld.1 h6 h7)
     clear h6 h7 hHeld
     go_wp2
     go_meet
     case rel => exact ⟨_, _, _, _, rfl, rfl, HEND.out⟩
  ·
   go_simp
   generalize hWa : World.alloc _ _ = w36
   obtain ⟨hBa, hha, hza⟩ := new_alloc hWa
   have HB36 := Lib.hid hBa
   have HH6 := Lib.hid hha
   have HL6 := Lib.hid (show w2.heap.size ≤ wD.heap.size from hHeld.1.size)
   clear hWa hBa hha hza
   refine hK.out _ _ (HS.out _ _ hHeld HB36.out) (fun hHeld => ?_)
   clear hK K
   try simp only [Act.put, sA, sB, sC, sD, sE, sF]
   refine wpAnyT_two (i := 2) (j := 7) rfl rfl (by kernel_rfl) (fun K hK => ?_) (fun K hK => ?_)
   ·
    go_simp
    refine (TP1.out w36 hHeld.1).mono ?_
    rintro e w32 ⟨o1, rfl, po1, hb32⟩
    have PO1 := Lib.hid po1
    have HB32 := Lib.hid hb32
    clear po1 hb32
    refine hK.out _ _ (HS.out _ _ hHeld HB32.out) (fun hHeld => ?_)
    clear hK K
    try simp only [Act.put, sA, sB, sC, sD, sE, sF]
    refine wpAnyT_two (i := 5) (j := 7) rfl rfl (by kernel_rfl) (fun K hK => ?_) (fun K hK => ?_)
    ·
     go_simp
     refine (TP2.out w32 hHeld.1).mono ?_
     rintro e w35 ⟨o2, rfl, po2, hb35⟩
     have PO2 := Lib.hid po2
     have HB35 := Lib.hid hb35
     clear po2 hb35
     refine hK.out _ _ (HS.out _ _ hHeld HB35.out) (fun hHeld => ?_)
     clear hK K
     try simp only [Act.put, sA, sB, sC, sD, sE, sF]
     refine wpAnyT_one (i := 7) rfl (by kernel_rfl) (fun K hK => ?_)
     go_simp
     generalize hWa : World.alloc _ _ = w37
     obtain ⟨hBa, hha, hza⟩ := new_alloc hWa
     have HB37 := Lib.hid hBa
     have HH7 := Lib.hid hha
     have HL7 := Lib.hid (show w2.heap.size ≤ w35.heap.size from hHeld.1.size)
     clear hWa hBa hha hza
     refine hK.out _ _ (HS.out _ _ hHeld HB37.out) (fun hHeld => ?_)
     clear hK K
     try simp only [Act.put, sA, sB, sC, sD, sE, sF]
     refine wpAnyT_tail (by kernel_rfl) ?_
     simp only [List.drop_succ_cons, List.drop_zero]
     have h6 : w37.heap[wD.heap.size]? = _ := (blk (blk (blk HH6.out HB32.out) HB35.out) HB37.out)
     have h7 : w37.heap[w35.heap.size]? = _ := HH7.out
     have hne : ¬ wD.heap.size = w35.heap.size := Nat.ne_of_lt (blk_lt (blk (blk HH6.out HB32.out) HB35.out))
     have hne' := Ne.symm hne
     obtain ⟨⟨p0, p1, p2, p3⟩, pf⟩ := four h6
     obtain ⟨⟨q0, q1, q2, q3⟩, qf⟩ := four h7
     have HEND := Lib.hid (pl_end PO1.out PO2.out hne HL6.out HL7.out hHeld.1 h6 h7)
     clear h6 h7 hHeld
     go_wp2
     go_meet
     case rel => exact ⟨_, _, _, _, rfl, rfl, HEND.out⟩
    ·
     go_simp
     generalize hWa : World.alloc _ _ = w37
     obtain ⟨hBa, hha, hza⟩ := new_alloc hWa
     have HB37 := Lib.hid hBa
     have HH7 := Lib.hid hha
     have HL7 := Lib.hid (show w2.heap.size ≤ w32.heap.size from hHeld.1.size)
     clear hWa hBa hha hza
     refine hK.out _ _ (HS.out _ _ hHeld HB37.out) (fun hHeld => ?_)
     clear hK K
     try simp only [Act.put, sA, sB, sC, sD, sE, sF]
     refine wpAnyT_one (i := 5) rfl (by kernel_rfl) (fun K hK => ?_)
     go_simp
     refine (TP2.out w37 hHeld.1).mono ?_
     rintro e w35 ⟨o2, rfl, po2, hb35⟩
     have PO2 := Lib.hid po2
     have HB35 := Lib.hid hb35
     clear po2 hb35
     refine hK.out _ _ (HS.out _ _ hHeld HB35.out) (fun hHeld => ?_)
     clear hK K
     try simp only [Act.put, sA, sB, sC, sD, sE, sF]
     refine wpAnyT_tail (by kernel_rfl) ?_
     simp only [List.drop_succ_cons, List.drop_zero]
     have h6 : w35.heap[wD.heap.size]? = _ := (blk (blk (blk HH6.out HB32.out) HB37.out) HB35.out)
     have h7 : w35.heap[w32.heap.size]? = _ := (blk HH7.out HB35.out)
     have hne : ¬ wD.heap.size = w32.heap.size := Nat.ne_of_lt (blk_lt (blk HH6.out HB32.out))
     have hne' := Ne.symm hne
     obtain ⟨⟨p0, p1, p2, p3⟩, pf⟩ := four h6
     obtain ⟨⟨q0, q1, q2, q3⟩, qf⟩ := four h7
     have HEND := Lib.hid (pl_end PO1.out PO2.out hne HL6.out HL7.out hHeld.1 h6 h7)
     clear h6 h7 hHeld
     go_wp2
     go_meet
     case rel => exact ⟨_, _, _, _, rfl, rfl, HEND.out⟩
   ·
    go_simp
    generalize hWa : World.alloc _ _ = w37
    obtain ⟨hBa, hha, hza⟩ := new_alloc hWa
    have HB37 := Lib.hid hBa
    have HH7 := Lib.hid hha
    have HL7 := Lib.hid (show w2.heap.size ≤ w36.heap.size from hHeld.1.size)
    clear hWa hBa hha hza
    refine hK.out _ _ (HS.out _ _ hHeld HB37.out) (fun hHeld => ?_)
    clear hK K
    try simp only [Act.put, sA, sB, sC, sD, sE, sF]
    refine wpAnyT_one (i := 2) rfl (by kernel_rfl) (fun K hK => ?_)
    go_simp
    refine (TP1.out w37 hHeld.1).mono ?_
    rintro e w32 ⟨o1, rfl, po1, hb32⟩
    have PO1 := Lib.hid po1
    have HB32 := Lib.hid hb32
    clear po1 hb32
    refine hK.out _ _ (HS.out _ _ hHeld HB32.out) (fun hHeld => ?_)
    clear hK K
    try simp only [Act.put, sA, sB, sC, sD, sE, sF]
    refine wpAnyT_one (i := 5) rfl (by kernel_rfl) (fun K hK => ?_)
    go_simp
    refine (TP2.out w32 hHeld.1).mono ?_
    rintro e w35 ⟨o2, rfl, po2, hb35⟩
    have PO2 := Lib.hid po2
    have HB35 := Lib.hid hb35
    clear po2 hb35
    refine hK.out _ _ (HS.out _ _ hHeld HB35.out) (fun hHeld => ?_)
    clear hK K
    try simp only [Act.put, sA, sB, sC, sD, sE, sF]
    refine wpAnyT_tail (by kernel_rfl) ?_
    simp only [List.drop_succ_cons, List.drop_zero]
    have h6 : w35.heap[wD.heap.size]? = _ := (blk (blk (blk HH6.out HB37.out) HB32.out) HB35.out)
    have h7 : w35.heap[w36.heap.size]? = _ := (blk (blk HH7.out HB32.out) HB35.out)
    have hne : ¬ wD.heap.size = w36.heap.size := Nat.ne_of_lt (blk_lt HH6.out)
    have hne' := Ne.symm hne
    obtain ⟨⟨p0, p1, p2, p3⟩, pf⟩ := four h6
    obtain ⟨⟨q0, q1, q2, q3⟩, qf⟩ := four h7
    have HEND := Lib.hid (pl_end PO1.out PO2.out hne HL6.out HL7.out hHeld.1 h6 h7)
    clear h6 h7 hHeld
    go_wp2
    go_meet
    case rel => exact ⟨_, _, _, _, rfl, rfl, HEND.out⟩
  ·
   go_simp
   generalize hWa : World.alloc _ _ = w37
   obtain ⟨hBa, hha, hza⟩ := new_alloc hWa
   have HB37 := Lib.hid hBa
   have HH7 := Lib.hid hha
   have HL7 := Lib.hid (show w2.heap.size ≤ wD.heap.size from hHeld.1.size)
   clear hWa hBa hha hza
   refine hK.out _ _ (HS.out _ _ hHeld HB37.out) (fun hHeld => ?_)
   clear hK K
   try simp only [Act.put, sA, sB, sC, sD, sE, sF]
   refine wpAnyT_two (i := 2) (j := 6) rfl rfl (by kernel_rfl) (fun K hK => ?_) (fun K hK => ?_)
   ·
    go_simp
    refine (TP1.out w37 hHeld.1).mono ?_
    rintro e w32 ⟨o1, rfl, po1, hb32⟩
    have PO1 := Lib.hid po1
    have HB32 := Lib.hid hb32
    clear po1 hb32
    refine hK.out _ _ (HS.out _ _ hHeld HB32.out) (fun hHeld => ?_)
    clear hK K
    try simp only [Act.put, sA, sB, sC, sD, sE, sF]
    refine wpAnyT_two (i := 5) (j := 6) rfl rfl (by kernel_rfl) (fun K hK => ?_) (fun K hK => ?_)
    ·
     go_simp
     refine (TP2.out w32 hHeld.1).mono ?_
     rintro e w35 ⟨o2, rfl, po2, hb35⟩
     have PO2 := Lib.hid po2
     have HB35 := Lib.hid hb35
     clear po2 hb35
     refine hK.out _ _ (HS.out _ _ hHeld HB35.out) (fun hHeld => ?_)
     clear hK K
     try simp only [Act.put, sA, sB, sC, sD, sE, sF]
     refine wpAnyT_one (i := 6) rfl (by kernel_rfl) (fun K hK => ?_)
     go_simp
     generalize hWa : World.alloc _ _ = w36
     obtain ⟨hBa, hha, hza⟩ := new_alloc hWa
     have HB36 := Lib.hid hBa
     have HH6 := Lib.hid hha
     have HL6 := Lib.hid (show w2.heap.size ≤ w35.heap.size from hHeld.1.size)
     clear hWa hBa hha hza
     refine hK.out _ _ (HS.out _ _ hHeld HB36.out) (fun hHeld => ?_)
     clear hK K
     try simp only [Act.put, sA, sB, sC, sD, sE, sF]
     refine wpAnyT_tail (by kernel_rfl) ?_
     simp only [List.drop_succ_cons, List.drop_zero]
     have h6 : w36.heap[w35.heap.size]? = _ := HH6.out
     have h7 : w36.heap[wD.heap.size]? = _ := (blk (blk (blk HH7.out HB32.out) HB35.out) HB36.out)
     have hne : ¬ w35.heap.size = wD.heap.size := Nat.ne_of_gt (blk_lt (blk (blk HH7.out HB32.out) HB35.out))
     have hne' := Ne.symm hne
     obtain ⟨⟨p0, p1, p2, p3⟩, pf⟩ := four h6
     obtain ⟨⟨q0, q1, q2, q3⟩, qf⟩ := four h7
     have HEND := Lib.hid (pl_end PO1.out PO2.out hne HL6.out HL7.out hHeld.1 h6 h7)
     clear h6 h7 hHeld
     go_wp2
     go_meet
     case rel => exact ⟨_, _, _, _, rfl, rfl, HEND.out⟩
    ·
     go_simp
     generalize hWa : World.alloc _ _ = w36
     obtain ⟨hBa, hha, hza⟩ := new_alloc hWa
     have HB36 := Lib.hid hBa
     have HH6 := Lib.hid hha
     have HL6 := Lib.hid (show w2.heap.size ≤ w32.heap.size from hHeld.1.size)
     clear hWa hBa hha hza
     refine hK.out _ _ (HS.out _ _ hHeld HB36.out) (fun hHeld => ?_)
     clear hK K
     try simp only [Act.put, sA, sB, sC, sD, sE, sF]
     refine wpAnyT_one (i := 5) rfl (by kernel_rfl) (fun K hK => ?_)
     go_simp
     refine (TP2.out w36 hHeld.1).mono ?_
     rintro e w35 ⟨o2, rfl, po2, hb35⟩
     have PO2 := Lib.hid po2
     have HB35 := Lib.hid hb35
     clear po2 hb35
     refine hK.out _ _ (HS.out _ _ hHeld HB35.out) (fun hHeld => ?_)
     clear hK K
     try simp only [Act.put, sA, sB, sC, sD, sE, sF]
     refine wpAnyT_tail (by kernel_rfl) ?_
     simp only [List.drop_succ_cons, List.drop_zero]
     have h6 : w35.heap[w32.heap.size]? = _ := (blk HH6.out HB35.out)
     have h7 : w35.heap[wD.heap.size]? = _ := (blk (blk (blk HH7.out HB32.out) HB36.out) HB35.out)
     have hne : ¬ w32.heap.size = wD.heap.size := Nat.ne_of_gt (blk_lt (blk HH7.out HB32.out))
     have hne' := Ne.symm hne
     obtain ⟨⟨p0, p1, p2, p3⟩, pf⟩ := four h6
     obtain ⟨⟨q0, q1, q2, q3⟩, qf⟩ := four h7
     have HEND := Lib.hid (pl_end PO1.out PO2.out hne HL6.out HL7.out hHeld.1 h6 h7)
     clear h6 h7 hHeld
     go_wp2
     go_meet
     case rel => exact ⟨_, _, _, _, rfl, rfl, HEND.out⟩
   ·
    go_simp
    generalize hWa : World.alloc _ _ = w36
    obtain ⟨hBa, hha, hza⟩ := new_alloc hWa
    have HB36 := Lib.hid hBa
    have HH6 := Lib.hid hha
    have HL6 := Lib.hid (show w2.heap.size ≤ w37.heap.size from hHeld.1.size)
    clear hWa hBa hha hza
    refine hK.out _ _ (HS.out _ _ hHeld HB36.out) (fun hHeld => ?_)
    clear hK K
    try simp only [Act.put, sA, sB, sC, sD, sE, sF]
    refine wpAnyT_one (i := 2) rfl (by kernel_rfl) (fun K hK => ?_)
    go_simp
    refine (TP1.out w36 hHeld.1).mono ?_
    rintro e w32 ⟨o1, rfl, po1, hb32⟩
    have PO1 := Lib.hid po1
    have HB32 := Lib.hid hb32
    clear po1 hb32
    refine hK.out _ _ (HS.out _ _ hHeld HB32.out) (fun hHeld => ?_)
    clear hK K
    try simp only [Act.put, sA, sB, sC, sD, sE, sF]
    refine wpAnyT_one (i := 5) rfl (by kernel_rfl) (fun K hK => ?_)
    go_simp
    refine (TP2.out w32 hHeld.1).mono ?_
    rintro e w35 ⟨o2, rfl, po2, hb35⟩
    have PO2 := Lib.hid po2
    have HB35 := Lib.hid hb35
    clear po2 hb35
    refine hK.out _ _ (HS.out _ _ hHeld HB35.out) (fun hHeld => ?_)
    clear hK K
    try simp only [Act.put, sA, sB, sC, sD, sE, sF]
    refine wpAnyT_tail (by kernel_rfl) ?_
    simp only [List.drop_succ_cons, List.drop_zero]
    have h6 : w35.heap[w37.heap.size]? = _ := (blk (blk HH6.out HB32.out) HB35.out)
    have h7 : w35.heap[wD.heap.size]? = _ := (blk (blk (blk HH7.out HB36.out) HB32.out) HB35.out)
    have hne : ¬ w37.heap.size = wD.heap.size := Nat.ne_of_gt (blk_lt HH7.out)
    have hne' := Ne.symm hne
    obtain ⟨⟨p0, p1, p2, p3⟩, pf⟩ := four h6
    obtain ⟨⟨q0, q1, q2, q3⟩, qf⟩ := four h7
    have HEND := Lib.hid (pl_end PO1.out PO2.out hne HL6.out HL7.out hHeld.1 h6 h7)
    clear h6 h7 hHeld
    go_wp2
    go_meet
    case rel => exact ⟨_, _, _, _, rfl, rfl, HEND.out⟩
 case rest =>
  obtain ⟨b1, b2, o, u, rfl, rfl, hpe⟩ := hcut
  obtain ⟨po, pu, hne, hb1, hb2, hb4, h1, h2⟩ := hpe
  have HPO := Lib.hid po
  have HPU := Lib.hid pu
  have HNE := Lib.hid hne
  have HB4 := Lib.hid hb4
  have HH1 := Lib.hid h1
  have HH2 := Lib.hid h2
  have HBG := Lib.hid (And.intro hb1 hb2)
  have r3 := (hb4.cell hl2).trans HC3.out
  have hkm : (kd : Int).tmod 4 = ((kd % 4 : Nat) : Int) := by rw [Int.tmod_eq_emod_of_nonneg (by omega)]; omega
  clear po pu hne hb4 h1 h2 hb1 hb2 TP1 TP2 HS hHeld
  go_upto_region 5 with fail
  go_cut [46] from 40 (fun v46 wx => ∃ bb : Bool, v46 = .bool bb ∧ wx = wc)
  case first => as_aux_lemma =>
   cases raw with
   | false =>
     go_wp2
     go_meet
     case rel => exact ⟨_, rfl, rfl⟩
   | true =>
     by_cases h4 : kd % 4 = 0
     ·
      have h40 : ((kd % 4 : Nat) : Int) = 0 := by omega
      go_wp2
      go_meet
      case rel => exact ⟨_, rfl, rfl⟩
     ·
      have h40 : ((((kd % 4 : Nat) : Int)) == 0) = false := by simp; omega
      go_wp2
      go_meet
      case rel => exact ⟨_, rfl, rfl⟩
  case rest =>
   obtain ⟨bb, rfl, rfl⟩ := hcut
   clear r3 hkm
   obtain ⟨⟨p0, p1, p2, p3⟩, pf⟩ := four HH1.out
   go_upto_if 46 with fail
   go_cut [] from 47 (fun wx => ∃ o' : Opn, o'.Small ∧ o'.b = 0 ∧ (PO x o' ∨ wantsN o'.k = 0) ∧ Below w2.heap.size w2 wx ∧ wx.heap[b1]? = some (opO o') ∧ wx.heap[b2]? = some (opO u))
   case first => as_aux_lemma =>
    cases bb with
    | false =>
      go_wp2
      go_meet
      case rel => exact ⟨o, HPO.out.small HXO.out, HPO.out.1, .inl HPO.out, HB4.out, HH1.out, HH2.out⟩
    | true =>
      have h90 : (kd : Int).tmod 9 = ((kd % 9 : Nat) : Int) := by rw [Int.tmod_eq_emod_of_nonneg (by omega)]; omega
      have h9 : kd % 9 < 9 := Nat.mod_lt _ (by omega)
      generalize kd % 9 = m9 at h90 h9
      obtain ⟨uk, huk, huk2⟩ : ∃ uk : Nat, (5 : Int) + (m9 : Int) = (uk : Int) ∧ uk = 5 + m9 := ⟨5 + m9, by omega, rfl⟩
      have HUK := Lib.hid huk2
      have hub : uk ≤ 13 := by omega
      clear huk2
      go_wp2
      go_meet
      case rel =>
       obtain ⟨hsm, hw⟩ := opO_small HXO.out HPO.out h9
       exact ⟨⟨uk, o.a, 0, []⟩, by rw [HUK.out]; exact hsm, rfl, .inr (by show wantsN uk = 0; rw [HUK.out]; exact hw), put4_below HB4.out HBG.out.1 _ _ _ _, put4 HH1.out _ _ _ _, (put4_other (fun e => HNE.out e.symm) _ _ _ _).trans HH2.out⟩
   case rest =>
    obtain ⟨o', hsm, hob, hpo, hb5, g1, g2⟩ := hcut
    have HSM := Lib.hid hsm
    have HPO' := Lib.hid hpo
    have HB5 := Lib.hid hb5
    have HG1 := Lib.hid g1
    have HG2 := Lib.hid g2
    have hA5 := HA2.out.below hb5 (Nat.le_refl _)
    obtain ⟨⟨p0, p1, p2, p3⟩, _⟩ := four g1
    obtain ⟨ws, cs, kn, hof, hwk⟩ := tell_cases HXO.out hpo
    have HOF := Lib.hid hof
    have HWK := Lib.hid hwk
    obtain ⟨nd, hnd⟩ : ∃ nd, (tabM x o'.a).getD Hg.Node.zero = nd := ⟨_, rfl⟩
    rw [hnd] at HWK
    have TG := Lib.hid (show Calls Tryz.prog 15 #[.pointer (some ⟨ab, 0, none⟩), .int .u64 (o'.a : Int)] wc (GetRes1 wc nd (tabM x o'.a).isSome) from by rw [← hnd]; exact get_any ab mb c (tabM x) o'.a wc hA5 (by have := hsm.a; unfold idTop; omega))
    clear hnd
    clear hob hsm hpo hb5 g1 g2 hA5 hof hwk pf HPO HB4 HH1 HH2 HC3
    go_wp2_with fail
    refine TG.out.mono ?_
    rintro e w6 ⟨ka, kc, rfl, hs1, hb6⟩
    have hb56 := HB5.out.trans (hb6.mono HB5.out.size)
    have g1 := blk HG1.out hb6
    have g2 := blk HG2.out hb6
    clear hs1 TG p0 p1 p2 p3
    go_upto_region 8 with fail
    have hbN : Below w6.heap.size w6 (w6.alloc (.cells #[.int .u8 (nd.kind : Int), strV nd.name, .int .i64 nd.num, .int .u8 (nd.type : Int), .int .u64 (nd.ref : Int), .slice ka nd.kids.length kc] 31)) := (Below.refl _ _).alloc (Nat.le_refl _) _
    have hhN := heap_alloc_new w6 (.cells #[.int .u8 (nd.kind : Int), strV nd.name, .int .i64 nd.num, .int .u8 (nd.type : Int), .int .u64 (nd.ref : Int), .slice ka nd.kids.length kc] 31)
    have g1 := blk g1 hbN
    have g2 := blk g2 hbN
    have hb57 := hb56.trans (hbN.mono hb56.size)
    generalize World.alloc w6 _ = W7 at hbN hhN g1 g2 hb57 ⊢
    have hnb : w2.heap.size ≤ w6.heap.size := hb56.size
    generalize w6.heap.size = nb at hbN hhN hnb ⊢
    have HB7 := Lib.hid hb57
    have HG1 := Lib.hid g1
    have HG2 := Lib.hid g2
    have HHN := Lib.hid hhN
    clear hbN hhN g1 g2 hb57 hb6 hb56 hnb
    have kv0 := KV.made W7
    have hbm : Below W7.heap.size W7 (W7.alloc (.map #[] 0)) := (Below.refl _ _).alloc (Nat.le_refl _) _
    have hmm := @run_makeMap Tryz.prog
    have HKV := Lib.hid (show ∃ w81 w82 w83 w84 w85, (Instr.mapUpdate 54 (.map (some W7.heap.size)) (.int .u8 1) (.int .u8 2)).run Tryz.prog (W7.alloc (.map #[] 0)) = .ok () w81 ∧
     (Instr.mapUpdate 54 (.map (some W7.heap.size)) (.int .u8 2) (.int .u8 3)).run Tryz.prog w81 = .ok () w82 ∧
     (Instr.mapUpdate 54 (.map (some W7.heap.size)) (.int .u8 3) (.int .u8 4)).run Tryz.prog w82 = .ok () w83 ∧
     (Instr.mapUpdate 54 (.map (some W7.heap.size)) (.int .u8 4) (.int .u8 6)).run Tryz.prog w83 = .ok () w84 ∧
     (Instr.mapUpdate 54 (.map (some W7.heap.size)) (.int .u8 14) (.int .u8 18)).run Tryz.prog w84 = .ok () w85 ∧
     (Instr.lookup 54 (.map (some W7.heap.size)) (.int .u8 (o'.k : Int)) false).run Tryz.prog w85 = .ok (.int .u8 (wantsN o'.k : Int)) w85 ∧ Below W7.heap.size W7 w85 from by
     obtain ⟨w81, q1, kv1, e1⟩ := kv0.put (k := 1) 2 (by omega) (by omega)
     obtain ⟨w82, q2, kv2, e2⟩ := kv1.put (k := 2) 3 (by omega) (by omega)
     obtain ⟨w83, q3, kv3, e3⟩ := kv2.put (k := 3) 4 (by omega) (by omega)
     obtain ⟨w84, q4, kv4, e4⟩ := kv3.put (k := 4) 6 (by omega) (by omega)
     obtain ⟨w85, q5, kv5, e5⟩ := kv4.put (k := 14) 18 (by omega) (by omega)
     exact ⟨w81, w82, w83, w84, w85, q1, q2, q3, q4, q5, wants_table kv5 HSM.out.k,
      hbm.trans ((below_of_some e1 kv0.lt).trans ((below_of_some e2 kv1.lt).trans ((below_of_some e3 kv2.lt).trans ((below_of_some e4 kv3.lt).trans (below_of_some e5 kv4.lt)))))⟩)
    obtain ⟨w81, w82, w83, w84, w85, q1, q2, q3, q4, q5, q6, hb8⟩ := HKV.out
    have g1 := blk HG1.out hb8
    have g2 := blk HG2.out hb8
    have gn := blk HHN.out hb8
    obtain ⟨⟨p0, p1, p2, p3⟩, _⟩ := four g1
    have n0 := cell_of_row w85 nb 0 _ _ (0, 0) gn
    simp at n0
    have HB8 := Lib.hid (HB7.out.trans (hb8.mono HB7.out.size))
    have HG1 := Lib.hid g1
    have HG2 := Lib.hid g2
    have HHN := Lib.hid gn
    clear g1 g2 gn hb8 kv0 hbm HKV
    go_upto_region 9 with fail
    clear q1 q2 q3 q4 q5 q6 hmm
    go_cut [16] from 65 (fun v16 wx => v16 = .bool kn ∧ wx = w85)
    case first => as_aux_lemma =>
     rcases HWK.out with ⟨rfl, -, e3, e4, -⟩ | ⟨rfl, -, -, e5⟩
     ·
      have q1 : ((wantsN o'.k : Int) != 0) = true := by simp; omega
      have q2 : ((nd.kind : Int) == (wantsN o'.k : Int)) = true := by simp; omega
      clear e3 e4
      go_wp2
      go_meet
      case rel => exact ⟨rfl, rfl⟩
     ·
      by_cases e3 : wantsN o'.k = 0
      ·
       have q1 : ((wantsN o'.k : Int) != 0) = false := by simp; omega
       clear e3 e5
       go_wp2
       go_meet
       case rel => exact ⟨rfl, rfl⟩
      ·
       have q1 : ((wantsN o'.k : Int) != 0) = true := by simp; omega
       have e4 : ¬ nd.kind = wantsN o'.k := (fun e => by rcases e5 with e' | ⟨_, e'⟩ <;> contradiction)
       have q2 : ((nd.kind : Int) == (wantsN o'.k : Int)) = false := by simp; omega
       clear e3 e4 e5
       go_wp2
       go_meet
       case rel => exact ⟨rfl, rfl⟩
    case rest =>
     obtain ⟨rfl, rfl⟩ := hcut
     have hA8 := HA2.out.below HB8.out (Nat.le_refl _)
     have hT8 := HTT.out.below (HB2.out.trans (HB8.out.mono HB2.out.size)) HTT.out.lt
     have TO1 := Lib.hid (of_any ab mb c (tabM x) o' ws cs kn wc hA8 HO.out HSM.out hT8 HOF.out)
     have HLN := Lib.hid HOF.out.len
     clear hA8 hT8
     go_wp2_with fail
     refine TO1.out.mono ?_
     clear p0 p1 p2 p3 n0 TO1
     rintro e w9 ⟨pv, rfl, ⟨p1, q1, p2, q2, rfl, hs1, hs2⟩, hb9⟩
     have HB9 := Lib.hid (HB8.out.trans (hb9.mono HB8.out.size))
     have hg1 := blk HG1.out hb9
     have hg2 := blk HG2.out hb9
     have hgn := blk HHN.out hb9
     clear hb9
     go_upto_region 11 with fail
     have hbq : Below w9.heap.size w9 (w9.alloc (.cells #[.slice p1 ws.length q1, .slice p2 cs.length q2, .bool kn] 47)) := (Below.refl _ _).alloc (Nat.le_refl _) _
     have hhq := heap_alloc_new w9 (.cells #[.slice p1 ws.length q1, .slice p2 cs.length q2, .bool kn] 47)
     have hg1 := blk hg1 hbq
     have hg2 := blk hg2 hbq
     have hgn := blk hgn hbq
     have hb10 := HB9.out.trans (hbq.mono HB9.out.size)
     have hs1 := (hs1.below hbq (Nat.le_refl _)).more hbq.size
     have hs2 := (hs2.below hbq (Nat.le_refl _)).more hbq.size
     generalize World.alloc w9 _ = W10 at hhq hg1 hg2 hgn hb10 hs1 hs2 ⊢
     generalize w9.heap.size = pbk at hhq ⊢
     obtain ⟨ws', cs', kn', hof', -⟩ := tell_cases HXO.out (.inl HPU.out)
     have TO2 := Lib.hid (of_any ab mb c (tabM x) u ws' cs' kn' W10 (HA2.out.below hb10 (Nat.le_refl _)) HO.out (HPU.out.small HXO.out) (HTT.out.below (HB2.out.trans (hb10.mono HB2.out.size)) HTT.out.lt) hof')
     have HOF' := Lib.hid hof'
     have HLN' := Lib.hid hof'.len
     have HG1' := Lib.hid hg1
     have HG2' := Lib.hid hg2
     have HGN' := Lib.hid hgn
     have HHQ' := Lib.hid hhq
     have HB10 := Lib.hid hb10
     have HS1 := Lib.hid hs1
     have HS2 := Lib.hid hs2
     obtain ⟨⟨d0, d1, d2, d3⟩, _⟩ := four hg2
     clear hbq hg1 hgn hhq hb10 hs1 hs2 hof' hg2
     go_wp2_with fail
     refine TO2.out.mono ?_
     rintro e w11 ⟨pv, rfl, ⟨p3, q3, p4, q4, rfl, hs3, hs4⟩, hb11⟩
     clear d0 d1 d2 d3 TO2
     go_upto_region 12 with fail
     have hbr : Below w11.heap.size w11 (w11.alloc (.cells #[.slice p3 ws'.length q3, .slice p4 cs'.length q4, .bool kn'] 47)) := (Below.refl _ _).alloc (Nat.le_refl _) _
     have hhr := heap_alloc_new w11 (.cells #[.slice p3 ws'.length q3, .slice p4 cs'.length q4, .bool kn'] 47)
     have hbt := hb11.trans (hbr.mono hb11.size)
     have hs3 := (hs3.below hbr (Nat.le_refl _)).more hbr.size
     have hs4 := (hs4.below hbr (Nat.le_refl _)).more hbr.size
     generalize World.alloc w11 _ = W12 at hhr hbt hs3 hs4 ⊢
     generalize w11.heap.size = qbk at hhr ⊢
     have hJ : JtS w2 b1 b2 nb pbk qbk o' u nd _ p1 p2 p3 p4 q1 q2 q3 q4 ws ws' cs cs' kn kn' W12 :=
      ⟨HB10.out.trans (hbt.mono HB10.out.size), blk HG1'.out hbt, blk HG2'.out hbt, blk HGN'.out hbt, blk HHQ'.out hbt, hhr, (HS1.out.below hbt (Nat.le_refl _)).more hbt.size, (HS2.out.below hbt (Nat.le_refl _)).more hbt.size, hs3, hs4⟩
     generalize (Value.slice ka nd.kids.length kc) = nkv at hJ
     clear hbr hhr hbt hs3 hs4 hb11
     clear HG1' HG2' HGN' HHQ' HB10 HS1 HS2 HB9 HG1 HG2 HHN HB8 HB7 HB5 HBG HNE
     have HJ := Lib.hid hJ
     obtain ⟨⟨x0, x1, x2, x3⟩, -, ⟨n0, n1⟩, ⟨c0, c1, c2⟩, -⟩ := hJ.cells
     clear hJ
     go_cut [96] from 79 (fun v96 wx => v96 = .bool false ∧ wx = W12)
     case first => as_aux_lemma =>
      rcases HWK.out with ⟨rfl, -, -, -, -⟩ | ⟨rfl, rfl, rfl, -⟩
      ·
       go_wp2
       go_meet
       case rel => exact ⟨rfl, rfl⟩
      ·
       go_wp2
       go_meet
       case rel => exact ⟨rfl, rfl⟩
     case rest =>
      obtain ⟨rfl, rfl⟩ := hcut
      go_upto_if 97 with fail
      go_cut [19, 20, 21] from 98 (fun v19 v20 v21 wx => JtS w2 b1 b2 nb pbk qbk o' u nd nkv p1 p2 p3 p4 q1 q2 q3 q4 ws ws' cs cs' kn kn' wx)
      case first => as_aux_lemma =>
       rcases HWK.out with ⟨rfl, rfl, -, -, r, hsc, hr0, hcs⟩ | ⟨rfl, rfl, rfl, -⟩
       ·
        have HCS := Lib.hid hcs
        have HSC := Lib.hid hsc
        have HR0 := Lib.hid hr0
        have hlc : cs.length ≤ 2 := HLN.out.2
        clear hcs hsc hr0
        go_upto_if 100 with fail
        go_cut [19] from 100 (fun v19 wx => v19 = .int .i64 (cs.length : Int) ∧ wx = wc)
        case first => as_aux_lemma =>
         have hcs := HCS.out
         by_cases h14 : o'.k = 14
         ·
          rw [if_pos h14] at hcs
          have h14' : ((o'.k : Int) == 14) = true := by simp; omega
          subst hcs
          clear h14
          go_wp2
          go_meet
          case rel => exact ⟨rfl, rfl⟩
         ·
          rw [if_neg h14] at hcs
          have h14' : ((o'.k : Int) == 14) = false := by simp; omega
          subst hcs
          clear h14
          go_wp2
          go_meet
          case rel => exact ⟨rfl, rfl⟩
        case rest =>
         obtain ⟨rfl, rfl⟩ := hcut
         have hJ := HJ.out
         have hbA : Below wc.heap.size wc (wc.alloc (.cells #[.int .u64 (o'.a : Int)] 28)) := (Below.refl _ _).alloc (Nat.le_refl _) _
         have hhA := heap_alloc_new wc (.cells #[.int .u64 (o'.a : Int)] 28)
         have hzA : (wc.alloc (.cells #[.int .u64 (o'.a : Int)] 28)).heap.size = wc.heap.size + 1 := by simp
         have TE := Lib.hid (equal_one (.slice p1 1 q1) (.slice (some ⟨wc.heap.size, 0, none⟩) 1 1) o'.a _ ((hJ.s1.below hbA (Nat.le_refl _)).more hbA.size) (by have := sl_one hhA; exact this))
         have HBA := Lib.hid hbA
         clear hJ hbA hhA hzA
         go_wp2_with fail
         refine TE.out.mono ?_
         generalize World.alloc wc _ = WE at HBA ⊢
         rintro e w13 ⟨rfl, hb13⟩
         have hb13' := HBA.out.trans (hb13.mono HBA.out.size)
         have hJ13 := HJ.out.keep hb13'
         have HJ13 := Lib.hid hJ13
         clear hb13 hb13' TE HBA x0 x1 x2 x3 n0 n1 c0 c1 c2
         obtain ⟨-, -, -, ⟨d0, d1, d2⟩, -⟩ := hJ13.cells
         clear hJ13
         go_wp2
         go_loopw [20, 21, 118] (fun v20 v21 v118 wr => ∃ i : Nat, i ≤ cs.length ∧ v118 = .int .i64 (i : Int) ∧ JtS w2 b1 b2 nb pbk qbk o' u nd nkv p1 p2 p3 p4 q1 q2 q3 q4 [o'.a] ws' cs cs' true kn' wr) (fun _ _ v118 _ => cs.length - (intOf v118).toNat)
         case atStart => exact ⟨0, Nat.zero_le _, rfl, HJ13.out⟩
         case round =>
          obtain ⟨i, hi, rfl, hJr⟩ := hrel
          have HJr := Lib.hid hJr
          clear d0 d1 d2
          by_cases hlt : i < cs.length
          ·
           have hcl : ∃ nm1 : List UInt8, cs[i]? = some (r, nm1) ∧ r ≠ 0 ∧ (i = 0 ∧ nm1 = o'.n ∨ i = 1 ∧ nm1 = nd.name) := by
            have hcs := HCS.out
            by_cases h14 : o'.k = 14
            ·
             rw [if_pos h14] at hcs
             rw [hcs] at hlt
             simp at hlt
            ·
             rw [if_neg h14] at hcs
             have hr1 := HR0.out h14
             rw [hcs] at hlt ⊢
             rcases i with _ | _ | i
             ·
              exact ⟨_, rfl, hr1, .inl ⟨rfl, rfl⟩⟩
             ·
              exact ⟨_, rfl, hr1, .inr ⟨rfl, rfl⟩⟩
             ·
              have : i + 1 + 1 < 2 := hlt
              omega
           obtain ⟨nm1, hget, hrz, hnm⟩ := hcl
           have HNM := Lib.hid hnm
           have hi2 : (i : Int) < 2 := by omega
           have hrz0 : ((r : Int) == 0) = false := by simp; omega
           obtain ⟨bq, oq, rfl, hlq, k0, k1⟩ := hJr.s2.clAt hget
           obtain ⟨⟨-, y1, -, y3⟩, -, ⟨-, m1⟩, -, -⟩ := hJr.cells
           have hlb : b1 < wr.heap.size := blk_lt hJr.h1
           have hlnb : nb < wr.heap.size := blk_lt hJr.hn
           clear hJr hget hnm hrz
           go_upto_region 23 with fail
           generalize hWa : World.alloc wr _ = wA
           obtain ⟨hBa, hha, hza⟩ := new_alloc hWa
           have HBA := Lib.hid hBa
           have e0 := cell_of_row wA wr.heap.size 0 _ _ (0, 0) hha
           have e1 := cell_of_row wA wr.heap.size 1 _ _ (0, 0) hha
           simp at e0 e1
           have hHeld : CkS wA wr.heap.size b1 nb r nm1 o' nd wA.drew := ⟨(Below.refl _ _).drew, e0, e1, (hBa.cell hlb).trans y1, (hBa.cell hlb).trans y3, (hBa.cell hlnb).trans m1⟩
           have HS := Lib.hid (fun W W' => @CkS.keep wA W W' wr.heap.size b1 nb r nm1 o' nd ⟨by omega, by omega, by omega⟩)
           have TSC := Lib.hid (fun W (hW : Below w2.heap.size w2 W) => scope_any ab mb c (tabM x) o'.a r W (HA2.out.below hW (Nat.le_refl _)) HO.out (by have := HSM.out.a; omega) HSC.out)
           generalize wr.heap.size = B at hHeld HS ⊢
           clear hWa hBa hha hza e0 e1 y1 y3 m1 k0 k1 hlb hlnb
           refine wp_region_two (CkS wA B b1 nb r nm1 o' nd) 24 (by kernel_rfl) ?_
           generalize wA.drew = wD at hHeld ⊢
           refine tk 0 ?_ rfl (by kernel_rfl) (fun _ _ _ h => h) ‹_› (by rfl) ?_ ?_
           rotate_left
           · (intro w' hSw; (try dsimp only [CkS] at hSw); go_simp; try with_reducible rfl)
           try simp only [Act.put, sA, sB, sC, sD, sE, sF]
           refine tk 1 ?_ rfl (by kernel_rfl) (fun _ _ _ h => h) ‹_› (by rfl) ?_ ?_
           rotate_left
           · (intro w' hSw; (try dsimp only [CkS] at hSw); go_simp; try with_reducible rfl)
           try simp only [Act.put, sA, sB, sC, sD, sE, sF]
           refine tk 2 ?_ rfl (by kernel_rfl) (fun _ _ _ h => h) ‹_› (by rfl) ?_ ?_
           rotate_left
           · (intro w' hSw; (try dsimp only [CkS] at hSw); go_simp; try with_reducible rfl)
           try simp only [Act.put, sA, sB, sC, sD, sE, sF]
           refine tk 3 ?_ rfl (by kernel_rfl) (fun _ _ _ h => h) ‹_› (by rfl) ?_ ?_
           rotate_left
           · (intro w' hSw; (try dsimp only [CkS] at hSw); go_simp; try with_reducible rfl)
           try simp only [Act.put, sA, sB, sC, sD, sE, sF]
           refine tk 4 ?_ rfl (by kernel_rfl) (fun _ _ _ h => h) ‹_› (by rfl) ?_ ?_
           rotate_left
           · (intro w' hSw; (try dsimp only [CkS] at hSw); go_simp; try with_reducible rfl)
           try simp only [Act.put, sA, sB, sC, sD, sE, sF]
           refine tk 5 ?_ rfl (by kernel_rfl) (fun _ _ _ h => h) ‹_› (by rfl) ?_ ?_
           rotate_left
           · (intro w' hSw; (try dsimp only [CkS] at hSw); go_simp; try with_reducible rfl)
           try simp only [Act.put, sA, sB, sC, sD, sE, sF]
           refine tk 7 ?_ rfl (by kernel_rfl) (fun _ _ _ h => h) ‹_› (by rfl) ?_ ?_
           rotate_left
           · (intro w' hSw; (try dsimp only [CkS] at hSw); go_simp; try with_reducible rfl)
           try simp only [Act.put, sA, sB, sC, sD, sE, sF]
           refine wpAnyT_one (i := 6) rfl (by kernel_rfl) (fun K hK => ?_)
           go_simp
           generalize hWa : World.alloc _ _ = w36
           obtain ⟨hBa, hha, hza⟩ := new_alloc hWa
           have HB36 := Lib.hid hBa
           have HH6 := Lib.hid hha
           clear hWa hBa hha hza
           refine hK.out _ _ (HS.out _ _ hHeld HB36.out) (fun hHeld => ?_)
           clear hK K
           try simp only [Act.put, sA, sB, sC, sD, sE, sF]
           refine tk 8 ?_ rfl (by kernel_rfl) (fun _ _ _ h => h) ‹_› (by rfl) ?_ ?_
           rotate_left
           · (intro w' hSw; (try dsimp only [CkS] at hSw); go_simp; try with_reducible rfl)
           try simp only [Act.put, sA, sB, sC, sD, sE, sF]
           refine wpAnyT_one (i := 9) rfl (by kernel_rfl) (fun K hK => ?_)
           have e9 : w36.cell? ⟨wD.heap.size, i, none⟩ = some (strV nm1) := by
            have f := cell_of_row w36 wD.heap.size i _ _ (0, 0) HH6.out
            rcases HNM.out with ⟨rfl, rfl⟩ | ⟨rfl, rfl⟩
            ·
             exact f
            ·
             exact f
           go_simp
           clear e9
           refine hK.out _ _ (hHeld) (fun hHeld => ?_)
           clear hK K
           try simp only [Act.put, sA, sB, sC, sD, sE, sF]
           refine tk 10 ?_ rfl (by kernel_rfl) (fun _ _ _ h => h) ‹_› (by rfl) ?_ ?_
           rotate_left
           · (intro w' hSw; (try dsimp only [CkS] at hSw); go_simp; try with_reducible rfl)
           try simp only [Act.put, sA, sB, sC, sD, sE, sF]
           refine tk 11 ?_ rfl (by kernel_rfl) (fun _ _ _ h => h) ‹_› (by rfl) ?_ ?_
           rotate_left
           · (intro w' hSw; (try dsimp only [CkS] at hSw); go_simp; try with_reducible rfl)
           try simp only [Act.put, sA, sB, sC, sD, sE, sF]
           refine tk 12 ?_ rfl (by kernel_rfl) (fun _ _ _ h => h) ‹_› (by rfl) ?_ ?_
           rotate_left
           · (intro w' hSw; (try dsimp only [CkS] at hSw); go_simp; try with_reducible rfl)
           try simp only [Act.put, sA, sB, sC, sD, sE, sF]
           refine tk 13 ?_ rfl (by kernel_rfl) (fun _ _ _ h => h) ‹_› (by rfl) ?_ ?_
           rotate_left
           · (intro w' hSw; (try dsimp only [CkS] at hSw); go_simp; try with_reducible rfl)
           try simp only [Act.put, sA, sB, sC, sD, sE, sF]
           refine tk 14 ?_ rfl (by kernel_rfl) (fun _ _ _ h => h) ‹_› (by rfl) ?_ ?_
           rotate_left
           · (intro w' hSw; (try dsimp only [CkS] at hSw); go_simp; try with_reducible rfl)
           try simp only [Act.put, sA, sB, sC, sD, sE, sF]
           refine tk 15 ?_ rfl (by kernel_rfl) (fun _ _ _ h => h) ‹_› (by rfl) ?_ ?_
           rotate_left
           · (intro w' hSw; (try dsimp only [CkS] at hSw); go_simp; try with_reducible rfl)
           try simp only [Act.put, sA, sB, sC, sD, sE, sF]
           refine tk 16 ?_ rfl (by kernel_rfl) (fun _ _ _ h => h) ‹_› (by rfl) ?_ ?_
           rotate_left
           · (intro w' hSw; (try dsimp only [CkS] at hSw); go_simp; try with_reducible rfl)
           try simp only [Act.put, sA, sB, sC, sD, sE, sF]
           refine wpAnyT_one (i := 17) rfl (by kernel_rfl) (fun K hK => ?_)
           go_simp
           refine (TSC.out w36 (HJr.out.bel.trans ((HBA.out.trans (hHeld.1.mono HBA.out.size)).mono HJr.out.bel.size))).mono ?_
           rintro e w37 ⟨rfl, hb37⟩
           have HB37 := Lib.hid hb37
           clear hb37
           refine hK.out _ _ (HS.out _ _ hHeld HB37.out) (fun hHeld => ?_)
           clear hK K
           try simp only [Act.put, sA, sB, sC, sD, sE, sF]
           refine tk 18 ?_ rfl (by kernel_rfl) (fun _ _ _ h => h) ‹_› (by rfl) ?_ ?_
           rotate_left
           · (intro w' hSw; (try dsimp only [CkS] at hSw); go_simp; try with_reducible rfl)
           try simp only [Act.put, sA, sB, sC, sD, sE, sF]
           refine tk 19 ?_ rfl (by kernel_rfl) (fun _ _ _ h => h) ‹_› (by rfl) ?_ ?_
           rotate_left
           · (intro w' hSw; (try dsimp only [CkS] at hSw); go_simp; try with_reducible rfl)
           try simp only [Act.put, sA, sB, sC, sD, sE, sF]
           refine tk 20 ?_ rfl (by kernel_rfl) (fun _ _ _ h => h) ‹_› (by rfl) ?_ ?_
           rotate_left
           · (intro w' hSw; (try dsimp only [CkS] at hSw); go_simp; try with_reducible rfl)
           try simp only [Act.put, sA, sB, sC, sD, sE, sF]
           refine tk 21 ?_ rfl (by kernel_rfl) (fun _ _ _ h => h) ‹_› (by rfl) ?_ ?_
           rotate_left
           · (intro w' hSw; (try dsimp only [CkS] at hSw); go_simp; try with_reducible rfl)
           try simp only [Act.put, sA, sB, sC, sD, sE, sF]
           refine tk 22 ?_ rfl (by kernel_rfl) (fun _ _ _ h => h) ‹_› (by rfl) ?_ ?_
           rotate_left
           · (intro w' hSw; (try dsimp only [CkS] at hSw); go_simp; try with_reducible rfl)
           try simp only [Act.put, sA, sB, sC, sD, sE, sF]
           refine tk 23 ?_ rfl (by kernel_rfl) (fun _ _ _ h => h) ‹_› (by rfl) ?_ ?_
           rotate_left
           · (intro w' hSw; (try dsimp only [CkS] at hSw); go_simp; try with_reducible rfl)
           try simp only [Act.put, sA, sB, sC, sD, sE, sF]
           refine wpAnyT_tail (by kernel_rfl) ?_
           simp only [List.drop_succ_cons, List.drop_zero]
           have HF := Lib.hid (HJr.out.keep (HBA.out.trans (hHeld.1.mono HBA.out.size)))
           clear hHeld
           go_wp2
           go_roundw
           case rel => exact ⟨i + 1, by omega, by go_num, HF.out⟩
           case measure => simp [intOf]; omega
          ·
           obtain rfl : i = cs.length := by omega
           clear hJr
           go_wp2
           go_meet
           case rel => exact HJr.out
       ·
        go_wp2
        go_meet
        case rel => exact HJ.out
      case rest =>
       clear HJ x0 x1 x2 x3 n0 n1 c0 c1 c2
       have HJ := Lib.hid hcut
       obtain ⟨-, -, -, ⟨c0, c1, c2⟩, ⟨d0, d1, d2⟩⟩ := hcut.cells
       clear hcut
       go_upto_region 26 with fail
       go_cut [22] from 149 (fun v22 wx => v22 = .bool (!kn || !kn') ∧ wx = wc)
       case first => as_aux_lemma =>
        cases kn with
        | false =>
          go_wp2
          go_meet
          case rel => exact ⟨rfl, rfl⟩
        | true =>
          cases kn' with
          | false =>
            go_wp2
            go_meet
            case rel => exact ⟨rfl, rfl⟩
          | true =>
            go_wp2
            go_meet
            case rel => exact ⟨rfl, rfl⟩
       case rest =>
        obtain ⟨rfl, rfl⟩ := hcut
        generalize hm0 : (!kn || !kn') = m0
        have HM0 := Lib.hid hm0
        have hlw : ws.length ≤ 1 := HLN.out.1
        have hlc : cs.length ≤ 2 := HLN.out.2
        have hlw' : ws'.length ≤ 1 := HLN'.out.1
        have hlc' : cs'.length ≤ 2 := HLN'.out.2
        clear hm0
        go_wp2
        go_loopw [22, 24, 160] (fun v22 v24 v160 wr => ∃ i : Nat, i ≤ ws.length ∧ v160 = .int .i64 (i : Int) ∧ v22 = .bool (anyB m0 ws ws' i) ∧ wr = wc) (fun _ _ v160 _ => ws.length - (intOf v160).toNat)
        case atStart => exact ⟨0, Nat.zero_le _, rfl, by rw [anyB_zero], rfl⟩
        case round =>
         obtain ⟨i, hi, rfl, rfl, rfl⟩ := hrel
         by_cases hlt : i < ws.length
         ·
          obtain ⟨xw, hxw⟩ : ∃ xw, ws[i]? = some xw := ⟨_, List.getElem?_eq_getElem hlt⟩
          obtain ⟨bi, oi, hp1, hli, e1⟩ := HJ.out.s1.idAt hlt
          have hws : ws[i] = xw := by simpa [List.getElem?_eq_getElem hlt] using hxw
          rw [hws] at e1
          have HST := Lib.hid (anyB_succ (b := m0) (m := ws') hxw)
          have TCI := Lib.hid (containsI_any _ (.slice p3 ws'.length q3) ws' xw _ HJ.out.s3 (by omega))
          subst hp1
          generalize decide (xw ∈ ws') = dx at TCI HST
          generalize anyB m0 ws ws' i = bx at HST ⊢
          clear hxw hws
          cases bx with
          | true =>
            go_wp2
            go_roundw
            case rel => exact ⟨i + 1, by omega, by go_num, by rw [HST.out]; rfl, by first | rfl | trivial⟩
            case measure => simp [intOf]; omega
          | false =>
            go_wp2_with fail
            refine TCI.out.mono ?_
            rintro e w' ⟨rfl, rfl⟩
            clear TCI
            go_wp2
            go_roundw
            case rel => exact ⟨i + 1, by omega, by go_num, by rw [HST.out]; rfl, by first | rfl | trivial⟩
            case measure => simp [intOf]; omega
         ·
          obtain rfl : i = ws.length := by omega
          generalize hm1 : anyB m0 ws ws' ws.length = m1
          have HM1 := Lib.hid hm1
          clear hm1
          go_wp2
          go_loopw [22, 26, 175] (fun v22 v26 v175 wr => ∃ j : Nat, j ≤ cs.length ∧ v175 = .int .i64 (j : Int) ∧ v22 = .bool (anyB m1 cs cs' j) ∧ JtS w2 b1 b2 nb pbk qbk o' u nd nkv p1 p2 p3 p4 q1 q2 q3 q4 ws ws' cs cs' kn kn' wr) (fun _ _ v175 _ => cs.length - (intOf v175).toNat)
          case atStart => exact ⟨0, Nat.zero_le _, rfl, by rw [anyB_zero], HJ.out⟩
          case round =>
           obtain ⟨j, hj, rfl, rfl, hJr⟩ := hrel
           clear c0 c1 c2 d0 d1 d2
           have HJr := Lib.hid hJr
           by_cases hlt : j < cs.length
           ·
            obtain ⟨cl, hcl⟩ : ∃ cl, cs[j]? = some cl := ⟨_, List.getElem?_eq_getElem hlt⟩
            obtain ⟨bq, oq, hp2, hlq, k0, k1⟩ := hJr.s2.clAt hcl
            obtain ⟨-, -, -, -, ⟨-, d1, -⟩⟩ := hJr.cells
            have hlqb : qbk < wr.heap.size := blk_lt hJr.hq
            have HST := Lib.hid (show anyB m1 cs cs' (j + 1) = (anyB m1 cs cs' j || decide (cl ∈ cs')) from by rw [anyB_succ hcl]; congr)
            have hbA : Below wr.heap.size wr (wr.alloc (.cells #[.int .u64 (cl.1 : Int), strV cl.2] 57)) := (Below.refl _ _).alloc (Nat.le_refl _) _
            have TCC := Lib.hid (containsC_any (.slice p4 cs'.length q4) cs' cl _ (hJr.keep hbA).s4 (by omega))
            have HBA := Lib.hid hbA
            subst hp2
            generalize decide (cl ∈ cs') = dx at TCC HST
            generalize anyB m1 cs cs' j = bx at HST ⊢
            clear hcl hJr hbA
            cases bx with
            | true =>
              go_wp2
              go_roundw
              case rel => exact ⟨j + 1, by omega, by go_num, by rw [HST.out]; rfl, HJr.out.keep HBA.out⟩
              case measure => simp [intOf]; omega
            | false =>
              go_wp2_with fail
              refine TCC.out.mono ?_
              rintro e w' ⟨rfl, hb⟩
              have HJ2 := Lib.hid ((HJr.out.keep HBA.out).keep hb)
              clear TCC hb d1
              go_wp2
              go_roundw
              case rel => exact ⟨j + 1, by omega, by go_num, by rw [HST.out]; rfl, HJ2.out⟩
              case measure => simp [intOf]; omega
           ·
            obtain rfl : j = cs.length := by omega
            have hM : anyB m1 cs cs' cs.length = meetsB ws ws' cs cs' kn kn' := by rw [← HM1.out, ← HM0.out]; exact anyB_all ws ws' cs cs' kn kn'
            rw [hM]
            have hC2 := meetsB_comm ws ws' cs cs' kn kn'
            have TM1 := Lib.hid (fun W (h : Below wr.heap.size wr W) => meets_any _ _ ws ws' cs cs' kn kn' W ⟨_, _, _, _, rfl, (HJr.out.keep h).s1, (HJr.out.keep h).s2⟩ ⟨_, _, _, _, rfl, (HJr.out.keep h).s3, (HJr.out.keep h).s4⟩ (by omega))
            have TM2 := Lib.hid (fun W (h : Below wr.heap.size wr W) => meets_any _ _ ws' ws cs' cs kn' kn W ⟨_, _, _, _, rfl, (HJr.out.keep h).s3, (HJr.out.keep h).s4⟩ ⟨_, _, _, _, rfl, (HJr.out.keep h).s1, (HJr.out.keep h).s2⟩ (by omega))
            have TC := Lib.hid (fun W (h : Below wr.heap.size wr W) => commute_any ab mb c (tabM x) o' u ws ws' cs cs' kn kn' W (HA2.out.below (HJr.out.keep h).bel (Nat.le_refl _)) HO.out HSM.out (HPU.out.small HXO.out) (HTT.out.below (HB2.out.trans ((HJr.out.keep h).bel.mono HB2.out.size)) HTT.out.lt) HOF.out HOF'.out)
            rw [hC2] at TM2
            generalize meetsB ws ws' cs cs' kn kn' = M at TM1 TM2 TC ⊢
            have TA := Lib.hid (fun W (h : Below wr.heap.size wr W) lv mv (l m : List Opn) hl hm (hl1 : l = [] ∨ l = [o']) (hm1 : m = [u]) => apart_any (.pointer (some ⟨ab, 0, none⟩)) lv mv l m (fun _ _ => !M) W hl hm (by rcases hl1 with rfl | rfl <;> simp) (by rw [hm1]; simp) (fun x hx y hy W' hW' => by
             have ex : x = o' := by
              rcases hl1 with rfl | rfl
              ·
               simp at hx
              ·
               simpa using hx
             have ey : y = u := by rw [hm1] at hy; simpa using hy
             subst ex; subst ey
             exact TC.out W' (h.trans (hW'.mono h.size))))
            obtain ⟨-, -, -, ⟨c0, c1, c2⟩, ⟨d0, d1, d2⟩⟩ := hJr.cells
            clear hJr hM hC2
            go_wp2_with fail
            refine (TM1.out _ (Below.refl _ _)).mono ?_
            rintro e w14 ⟨rfl, hb14⟩
            have HB14 := Lib.hid hb14
            clear c0 c1 c2 d0 d1 d2 TM1
            obtain ⟨-, -, -, ⟨c0, c1, c2⟩, ⟨d0, d1, d2⟩⟩ := (HJr.out.keep hb14).cells
            clear hb14
            go_wp2_with fail
            refine (TM2.out _ HB14.out).mono ?_
            rintro e w15 ⟨rfl, hb15⟩
            have hb15 := HB14.out.trans (hb15.mono HB14.out.size)
            have HB15 := Lib.hid hb15
            clear c0 c1 c2 d0 d1 d2 TM2
            obtain ⟨⟨x0, x1, x2, x3⟩, ⟨y0, y1, y2, y3⟩, -⟩ := (HJr.out.keep hb15).cells
            clear hb15
            go_wp2_with fail
            refine (TC.out _ HB15.out).mono ?_
            rintro e w16 ⟨rfl, hb16⟩
            have hb16 := HB15.out.trans (hb16.mono HB15.out.size)
            have HB16 := Lib.hid hb16
            clear x0 x1 x2 x3 y0 y1 y2 y3
            obtain ⟨⟨x0, x1, x2, x3⟩, ⟨y0, y1, y2, y3⟩, -⟩ := (HJr.out.keep hb16).cells
            clear hb16
            have hbl : Below w16.heap.size w16 ((w16.alloc (.cells #[.int .u8 (o'.k : Int), .int .u64 (o'.a : Int), .int .u64 (o'.b : Int), strV o'.n] 43)).alloc (.cells #[.int .u8 (u.k : Int), .int .u64 (u.a : Int), .int .u64 (u.b : Int), strV u.n] 43)) := ((Below.refl _ _).alloc (Nat.le_refl _) _).alloc (by simp) _
            have hho := heap_alloc2_old w16 (.cells #[.int .u8 (o'.k : Int), .int .u64 (o'.a : Int), .int .u64 (o'.b : Int), strV o'.n] 43) (.cells #[.int .u8 (u.k : Int), .int .u64 (u.a : Int), .int .u64 (u.b : Int), strV u.n] 43)
            have hhn := heap_alloc2_new w16 (.cells #[.int .u8 (o'.k : Int), .int .u64 (o'.a : Int), .int .u64 (o'.b : Int), strV o'.n] 43) (.cells #[.int .u8 (u.k : Int), .int .u64 (u.a : Int), .int .u64 (u.b : Int), strV u.n] 43)
            have TA1 := Lib.hid (TA.out _ (HB16.out.trans (hbl.mono HB16.out.size)) _ _ [o'] [u] (sl_op hho) (sl_op hhn) (.inr rfl) rfl)
            simp only [List.all_cons, List.all_nil, Bool.and_true] at TA1
            have HBL := Lib.hid hbl
            clear hbl hho hhn
            have hl2b : b2 < w16.heap.size := blk_lt (HJr.out.keep HB16.out).h2
            go_wp2_with fail
            refine TA1.out.mono ?_
            generalize World.alloc (World.alloc w16 _) _ = W17 at HBL ⊢
            rintro e w18 ⟨rfl, hb18⟩
            have hb18 := HB16.out.trans ((HBL.out.trans (hb18.mono HBL.out.size)).mono HB16.out.size)
            have HB18 := Lib.hid hb18
            clear x0 x1 x2 x3 y0 y1 y2 y3 TA1 hl2b
            obtain ⟨-, ⟨y0, y1, y2, y3⟩, -⟩ := (HJr.out.keep hb18).cells
            clear hb18
            have hbl : Below w18.heap.size w18 (w18.alloc (.cells #[.int .u8 (u.k : Int), .int .u64 (u.a : Int), .int .u64 (u.b : Int), strV u.n] 43)) := (Below.refl _ _).alloc (Nat.le_refl _) _
            have hhn := heap_alloc_new w18 (.cells #[.int .u8 (u.k : Int), .int .u64 (u.a : Int), .int .u64 (u.b : Int), strV u.n] 43)
            have TA2 := Lib.hid (TA.out _ (HB18.out.trans (hbl.mono HB18.out.size)) (.slice none 0 0) _ [] [u] (Sl.nil _ _) (sl_op hhn) (.inl rfl) rfl)
            simp only [List.all_nil] at TA2
            have HBM := Lib.hid hbl
            clear hbl hhn
            go_wp2_with fail
            refine TA2.out.mono ?_
            generalize World.alloc w18 _ = W19 at HBM ⊢
            rintro e w20 ⟨rfl, hb20⟩
            have HB20 := Lib.hid (HB18.out.trans ((HBM.out.trans (hb20.mono HBM.out.size)).mono HB18.out.size))
            clear y0 y1 y2 y3 TA2 hb20
            go_wp2
            go_ret
            exact ⟨rfl, HB2.out.trans ((HJr.out.keep HB20.out).bel.mono HB2.out.size)⟩
end Go.Proofs.YtihmbbkppkgcmaaGreatDoor
