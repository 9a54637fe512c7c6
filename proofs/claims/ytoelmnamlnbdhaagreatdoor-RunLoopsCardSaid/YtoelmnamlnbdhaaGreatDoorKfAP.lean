/-
  Part of a proof of RunLoops: contracts of functions that the claim reaches, and plain lemmas.
-/
import Derived.Test.YtoelmnamlnbdhaaGreatDoorKfAM
import Derived.Test.YtoelmnamlnbdhaaGreatDoorKfAF
import Derived.Deep.Cut
import Derived.Deep.CutBlock
import Derived.Test.YtoelmnamlnbdhaaGreatDoorKfAO
import Derived.Maps.RangeWalk
set_option linter.all false
namespace Go.Proofs.YtoelmnamlnbdhaaGreatDoor
open Go.RowKit
theorem below_cell {B : Nat} {w w' : World} (h : Below B w w') (hB : w.heap.size ≤ B) {p : Addr} {v : Value} (hc : w.cell? p = some v) : w'.cell? p = some v :=
 (h.cell (Nat.lt_of_lt_of_le (World.block_lt_of_cell? w p hc) hB)).trans hc
end Go.Proofs.YtoelmnamlnbdhaaGreatDoor
namespace Go.Proofs.YtoelmnamlnbdhaaGreatDoor
open Go.RowKit
def PutRes (Z : Nat → Prop) (w : World) (ab mb c : Nat) (M : Nat → Option Hg.Node) (id : Nat) (nd : Hg.Node) (w' : World) : Prop :=
 ArAtZ (fun q => Z q ∨ w.heap.size ≤ q ∧ q < w'.heap.size) w' ab mb (if (M id).isSome then c else c + 1) (putM M id nd) ∧ w.grownBy w' (some mb)
set_option maxHeartbeats 4000000 in
set_option maxRecDepth 100000 in
theorem put_any (Z : Nat → Prop) (ab mb c : Nat) (M : Nat → Option Hg.Node) (id : Nat) (nd : Hg.Node) (ka : Option Addr) (kc : Nat) (w : World) (hA : ArAtZ Z w ab mb c M) (hid : id < idTop) (hid0 : id ≠ 0) (hfull : (M id).isSome = true ∨ c < 20000) (hc : c ≤ 1000000)
 (hs : Sl w w.heap.size (.slice ka nd.kids.length kc) nd.kids.length (nd.kids.map idV)) (hlen : nd.kids.length ≤ 1000000) :
 Calls Tryz.prog 24 #[.pointer (some ⟨ab, 0, none⟩), .int .u64 (id : Int), ndV nd ka kc] w fun e w' => e = .returned (.int .i64 0) ∧ PutRes Z w ab mb c M id nd w' := by
 obtain ⟨c0, f0⟩ := hA.read
 have hlt := hA.lt
 have hq0 : ((id : Int) == 0) = false := by simp; omega
 have HA := Lib.hid hA
 have HS := Lib.hid hs
 have HI := Lib.hid hid
 have hb0 : Below w.heap.size w (w.alloc (.cells #[.int .u8 (nd.kind : Int), strV nd.name, .int .i64 nd.num, .int .u8 (nd.type : Int), .int .u64 (nd.ref : Int), .slice ka nd.kids.length kc] 70)) := (Below.refl _ _).alloc (Nat.le_refl _) _
 obtain ⟨k1, c1, hlk, _⟩ := (hA.below hb0 (Nat.le_refl _)).map.look1 hid
 clear hA hs hid hid0
 have hlen7 : ∀ W, ArMapZ Z W mb c M → (Builtin.len_ #[56] 3 #[.map (some mb)]).run Tryz.prog W = .ok (.int .i64 (c : Int)) W := by
  rintro W ⟨⟨D, ho, hs, _⟩, _⟩
  rw [ho.len Tryz.underlying56 _, hs]
 have hl7 := hlen7 _ ((HA.out.below hb0 (Nat.le_refl _)).map.below ((Below.refl _ _).alloc (Nat.le_refl _) (.cells #[.int .u8 (((M id).getD Hg.Node.zero).kind : Int), strV ((M id).getD Hg.Node.zero).name, .int .i64 ((M id).getD Hg.Node.zero).num, .int .u8 (((M id).getD Hg.Node.zero).type : Int), .int .u64 (((M id).getD Hg.Node.zero).ref : Int), .slice k1 ((M id).getD Hg.Node.zero).kids.length c1] 70)) (Nat.le_refl _))
 generalize (M id).getD Hg.Node.zero = n0 at hlk hl7
 have HSZ := Lib.hid (show (if (M id).isSome = true then c else c + 1) = (if (M id).isSome = true then c else c + 1) from rfl)
 have HF := Lib.hid hfull
 have hfin : ∀ W4, ArAtZ (fun q => Z q ∨ w.heap.size ≤ q ∧ q < W4.heap.size) W4 ab mb (if (M id).isSome = true then c else c + 1) (putM M id nd) → w.grownBy W4 (some mb) → PutRes Z w ab mb c M id nd W4 := fun W4 h1 h2 => ⟨h1, h2⟩
 have HFI := Lib.hid hfin
 have hful2 : (M id).isSome = false → decide ((20000 : Int) ≤ (c : Int)) = false := by
  intro h; rcases HF.out with h' | h'
  ·
   rw [h] at h'; cases h'
  ·
   simp; omega
 clear hlen7 HF hfull hfin
 have hmain : ∀ s, (M id).isSome = s → Calls Tryz.prog 24 #[.pointer (some ⟨ab, 0, none⟩), .int .u64 (id : Int), ndV nd ka kc] w fun e w' => e = .returned (.int .i64 0) ∧ PutRes Z w ab mb c M id nd w' := by
  intro s hs
  rw [hs] at hlk
  have hq1 : s = false → decide ((20000 : Int) ≤ (c : Int)) = false := fun e => hful2 (hs.trans e)
  clear hs hful2
  cases s with
  | true =>
    clear hq1
    go_enter Tryz.func24, Tryz.ntmps24
    go_upto_region 8 with fail
    have hb2 : Below w.heap.size w ((w.alloc (.cells #[.int .u8 (nd.kind : Int), strV nd.name, .int .i64 nd.num, .int .u8 (nd.type : Int), .int .u64 (nd.ref : Int), .slice ka nd.kids.length kc] 70)).alloc (.cells #[.int .u8 (n0.kind : Int), strV n0.name, .int .i64 n0.num, .int .u8 (n0.type : Int), .int .u64 (n0.ref : Int), .slice k1 n0.kids.length c1] 70)) := hb0.alloc hb0.size _
    have hh0 := heap_alloc2_old w (.cells #[.int .u8 (nd.kind : Int), strV nd.name, .int .i64 nd.num, .int .u8 (nd.type : Int), .int .u64 (nd.ref : Int), .slice ka nd.kids.length kc] 70) (.cells #[.int .u8 (n0.kind : Int), strV n0.name, .int .i64 n0.num, .int .u8 (n0.type : Int), .int .u64 (n0.ref : Int), .slice k1 n0.kids.length c1] 70)
    have k := fun i => cell_of_row _ w.heap.size i _ _ (0, 0) hh0
    have e0 := k 0; have e1 := k 1; have e2 := k 2; have e3 := k 3; have e4 := k 4; have e5 := k 5
    clear k hh0 hlk hl7 hb0
    generalize World.alloc (World.alloc w _) _ = W2 at hb2 e0 e1 e2 e3 e4 e5 ⊢
    have HA2 := Lib.hid (HA.out.below hb2 (Nat.le_refl _))
    have HK2 := Lib.hid (((HS.out.below hb2 (Nat.le_refl _)).more hb2.size).below ((Below.refl W2.heap.size W2).drew) (Nat.le_refl _))
    have hHeld : (fun w' => w'.cell? ⟨ab, 0, none⟩ = some (.map (some mb)) ∧ w'.cell? ⟨w.heap.size, 0, none⟩ = some (.int .u8 (nd.kind : Int)) ∧ w'.cell? ⟨w.heap.size, 1, none⟩ = some (strV nd.name) ∧ w'.cell? ⟨w.heap.size, 2, none⟩ = some (.int .i64 nd.num) ∧ w'.cell? ⟨w.heap.size, 3, none⟩ = some (.int .u8 (nd.type : Int)) ∧ w'.cell? ⟨w.heap.size, 4, none⟩ = some (.int .u64 (nd.ref : Int)) ∧ w'.cell? ⟨w.heap.size, 5, none⟩ = some (.slice ka nd.kids.length kc)) W2.drew := ⟨(hb2.cell hlt).trans c0, e0, e1, e2, e3, e4, e5⟩
    have hsz2 : w.heap.size ≤ W2.heap.size := hb2.size
    have HN := Lib.hid (show ∀ W3 W4, Below W2.heap.size W2.drew W3 → ArMapZ (fun q => Z q ∨ w.heap.size ≤ q ∧ q < W3.heap.size) W4 mb (if (M id).isSome = true then c else c + 1) (putM M id nd) → W3.grownBy W4 (some mb) → PutRes Z w ab mb c M id nd W4 from fun W3 W4 h1 h2 h3 => by
     have hb3 : Below w.heap.size w W3 := (hb2.drew).trans (h1.mono hb2.size)
     have hne : ab ≠ mb := fun e => by
      have hc := HA.out.cell
      obtain ⟨⟨D, ho, _⟩, _⟩ := HA.out.map
      obtain ⟨es, ck, hm⟩ := owns_map ho
      rw [e, hm] at hc; cases hc
     refine HFI.out W4 (ArAtZ.imp (Z := fun q => Z q ∨ w.heap.size ≤ q ∧ q < W3.heap.size) ⟨?_, h2⟩ (fun q h => h.imp (fun x => x) (fun h => ⟨h.1, Nat.lt_of_lt_of_le h.2 h3.size⟩))) ⟨h3.os.trans hb3.os, h3.tape.trans hb3.tape, h3.output.trans hb3.output, Nat.le_trans hb3.size h3.size, fun i hi hne => (h3.block i (Nat.lt_of_lt_of_le hi hb3.size) hne).trans (hb3.block i hi)⟩
     exact (h3.block ab (Nat.lt_of_lt_of_le hlt hb3.size) (fun e => hne (by injection e))).trans ((hb3.block ab hlt).trans HA.out.cell))
    clear hb2 e0 e1 e2 e3 e4 e5 c0 f0
    refine wp_region_two (fun w' => w'.cell? ⟨ab, 0, none⟩ = some (.map (some mb)) ∧ w'.cell? ⟨w.heap.size, 0, none⟩ = some (.int .u8 (nd.kind : Int)) ∧ w'.cell? ⟨w.heap.size, 1, none⟩ = some (strV nd.name) ∧ w'.cell? ⟨w.heap.size, 2, none⟩ = some (.int .i64 nd.num) ∧ w'.cell? ⟨w.heap.size, 3, none⟩ = some (.int .u8 (nd.type : Int)) ∧ w'.cell? ⟨w.heap.size, 4, none⟩ = some (.int .u64 (nd.ref : Int)) ∧ w'.cell? ⟨w.heap.size, 5, none⟩ = some (.slice ka nd.kids.length kc)) 7 (by kernel_rfl) ?_
    refine tk 0 ?_ rfl (by kernel_rfl) (fun _ _ _ h => h) ‹_› ?_ ?_ (tk 1 ?_ rfl (by kernel_rfl) (fun _ _ _ h => h) ‹_› ?_ ?_ (tk 2 ?_ rfl (by kernel_rfl) (fun _ _ _ h => h) ‹_› ?_ ?_ (tk 3 ?_ rfl (by kernel_rfl) (fun _ _ _ h => h) ‹_› ?_ ?_ (tk 4 ?_ rfl (by kernel_rfl) (fun _ _ _ h => h) ‹_› ?_ ?_ (tk 5 ?_ rfl (by kernel_rfl) (fun _ _ _ h => h) ‹_› ?_ ?_ ?_)))))
    all_goals try (first | rfl | ((try simp only [Act.put, sA, sB, sC]); intro w' hSw; (try dsimp only at hSw); go_simp; try with_reducible rfl))
    try simp only [Act.put, sA, sB, sC]
    refine wpAnyT_one (i := 6) rfl (by kernel_rfl) (fun K hK => ?_)
    go_simp
    refine (whole_any W2.heap.size nd ka kc W2.drew (Nat.le_refl _) HK2.out hlen).mono ?_
    rintro e w3 ⟨ka3, kc3, rfl, hs3, hb3, hq3⟩
    refine hK.out _ _ (⟨below_cell hb3 (Nat.le_refl _) hHeld.1, below_cell hb3 (Nat.le_refl _) hHeld.2.1, below_cell hb3 (Nat.le_refl _) hHeld.2.2.1, below_cell hb3 (Nat.le_refl _) hHeld.2.2.2.1, below_cell hb3 (Nat.le_refl _) hHeld.2.2.2.2.1, below_cell hb3 (Nat.le_refl _) hHeld.2.2.2.2.2.1, below_cell hb3 (Nat.le_refl _) hHeld.2.2.2.2.2.2⟩) (fun hHeld => ?_)
    clear hK K
    try simp only [Act.put, sA, sB, sC]
    refine wpAnyT_tail (by kernel_rfl) ?_
    simp only [List.drop_succ_cons, List.drop_zero]
    obtain ⟨W4, hrun4, hA4, hg4⟩ := (((HA2.out.below ((Below.refl W2.heap.size W2).drew) (Nat.le_refl _)).map.below hb3 (Nat.le_refl _)).imp (Z' := fun q => Z q ∨ w.heap.size ≤ q ∧ q < w3.heap.size) (fun q h => .inl h)).store hc (HI.out) nd ka3 kc3 hs3 hlen (fun q hq => .inr ⟨by have h1 := (hq3 q hq).1; have h2 : W2.drew.heap.size = W2.heap.size := rfl; have h3 := hsz2; omega, (hq3 q hq).2⟩)
    have HFIN := Lib.hid (HN.out _ _ hb3 hA4 hg4)
    clear hA4 hg4 hs3 hb3 hq3 hHeld HK2 HA2 HN
    go_wp2_with fail
    go_ret
    exact ⟨rfl, HFIN.out⟩
  | false =>
    have hq1 := hq1 rfl
    go_enter Tryz.func24, Tryz.ntmps24
    go_upto_region 8 with fail
    have hb2 : Below w.heap.size w ((w.alloc (.cells #[.int .u8 (nd.kind : Int), strV nd.name, .int .i64 nd.num, .int .u8 (nd.type : Int), .int .u64 (nd.ref : Int), .slice ka nd.kids.length kc] 70)).alloc (.cells #[.int .u8 (n0.kind : Int), strV n0.name, .int .i64 n0.num, .int .u8 (n0.type : Int), .int .u64 (n0.ref : Int), .slice k1 n0.kids.length c1] 70)) := hb0.alloc hb0.size _
    have hh0 := heap_alloc2_old w (.cells #[.int .u8 (nd.kind : Int), strV nd.name, .int .i64 nd.num, .int .u8 (nd.type : Int), .int .u64 (nd.ref : Int), .slice ka nd.kids.length kc] 70) (.cells #[.int .u8 (n0.kind : Int), strV n0.name, .int .i64 n0.num, .int .u8 (n0.type : Int), .int .u64 (n0.ref : Int), .slice k1 n0.kids.length c1] 70)
    have k := fun i => cell_of_row _ w.heap.size i _ _ (0, 0) hh0
    have e0 := k 0; have e1 := k 1; have e2 := k 2; have e3 := k 3; have e4 := k 4; have e5 := k 5
    clear k hh0 hlk hl7 hb0
    generalize World.alloc (World.alloc w _) _ = W2 at hb2 e0 e1 e2 e3 e4 e5 ⊢
    have HA2 := Lib.hid (HA.out.below hb2 (Nat.le_refl _))
    have HK2 := Lib.hid (((HS.out.below hb2 (Nat.le_refl _)).more hb2.size).below ((Below.refl W2.heap.size W2).drew) (Nat.le_refl _))
    have hHeld : (fun w' => w'.cell? ⟨ab, 0, none⟩ = some (.map (some mb)) ∧ w'.cell? ⟨w.heap.size, 0, none⟩ = some (.int .u8 (nd.kind : Int)) ∧ w'.cell? ⟨w.heap.size, 1, none⟩ = some (strV nd.name) ∧ w'.cell? ⟨w.heap.size, 2, none⟩ = some (.int .i64 nd.num) ∧ w'.cell? ⟨w.heap.size, 3, none⟩ = some (.int .u8 (nd.type : Int)) ∧ w'.cell? ⟨w.heap.size, 4, none⟩ = some (.int .u64 (nd.ref : Int)) ∧ w'.cell? ⟨w.heap.size, 5, none⟩ = some (.slice ka nd.kids.length kc)) W2.drew := ⟨(hb2.cell hlt).trans c0, e0, e1, e2, e3, e4, e5⟩
    have hsz2 : w.heap.size ≤ W2.heap.size := hb2.size
    have HN := Lib.hid (show ∀ W3 W4, Below W2.heap.size W2.drew W3 → ArMapZ (fun q => Z q ∨ w.heap.size ≤ q ∧ q < W3.heap.size) W4 mb (if (M id).isSome = true then c else c + 1) (putM M id nd) → W3.grownBy W4 (some mb) → PutRes Z w ab mb c M id nd W4 from fun W3 W4 h1 h2 h3 => by
     have hb3 : Below w.heap.size w W3 := (hb2.drew).trans (h1.mono hb2.size)
     have hne : ab ≠ mb := fun e => by
      have hc := HA.out.cell
      obtain ⟨⟨D, ho, _⟩, _⟩ := HA.out.map
      obtain ⟨es, ck, hm⟩ := owns_map ho
      rw [e, hm] at hc; cases hc
     refine HFI.out W4 (ArAtZ.imp (Z := fun q => Z q ∨ w.heap.size ≤ q ∧ q < W3.heap.size) ⟨?_, h2⟩ (fun q h => h.imp (fun x => x) (fun h => ⟨h.1, Nat.lt_of_lt_of_le h.2 h3.size⟩))) ⟨h3.os.trans hb3.os, h3.tape.trans hb3.tape, h3.output.trans hb3.output, Nat.le_trans hb3.size h3.size, fun i hi hne => (h3.block i (Nat.lt_of_lt_of_le hi hb3.size) hne).trans (hb3.block i hi)⟩
     exact (h3.block ab (Nat.lt_of_lt_of_le hlt hb3.size) (fun e => hne (by injection e))).trans ((hb3.block ab hlt).trans HA.out.cell))
    clear hb2 e0 e1 e2 e3 e4 e5 c0 f0
    refine wp_region_two (fun w' => w'.cell? ⟨ab, 0, none⟩ = some (.map (some mb)) ∧ w'.cell? ⟨w.heap.size, 0, none⟩ = some (.int .u8 (nd.kind : Int)) ∧ w'.cell? ⟨w.heap.size, 1, none⟩ = some (strV nd.name) ∧ w'.cell? ⟨w.heap.size, 2, none⟩ = some (.int .i64 nd.num) ∧ w'.cell? ⟨w.heap.size, 3, none⟩ = some (.int .u8 (nd.type : Int)) ∧ w'.cell? ⟨w.heap.size, 4, none⟩ = some (.int .u64 (nd.ref : Int)) ∧ w'.cell? ⟨w.heap.size, 5, none⟩ = some (.slice ka nd.kids.length kc)) 7 (by kernel_rfl) ?_
    refine tk 0 ?_ rfl (by kernel_rfl) (fun _ _ _ h => h) ‹_› ?_ ?_ (tk 1 ?_ rfl (by kernel_rfl) (fun _ _ _ h => h) ‹_› ?_ ?_ (tk 2 ?_ rfl (by kernel_rfl) (fun _ _ _ h => h) ‹_› ?_ ?_ (tk 3 ?_ rfl (by kernel_rfl) (fun _ _ _ h => h) ‹_› ?_ ?_ (tk 4 ?_ rfl (by kernel_rfl) (fun _ _ _ h => h) ‹_› ?_ ?_ (tk 5 ?_ rfl (by kernel_rfl) (fun _ _ _ h => h) ‹_› ?_ ?_ ?_)))))
    all_goals try (first | rfl | ((try simp only [Act.put, sA, sB, sC]); intro w' hSw; (try dsimp only at hSw); go_simp; try with_reducible rfl))
    try simp only [Act.put, sA, sB, sC]
    refine wpAnyT_one (i := 6) rfl (by kernel_rfl) (fun K hK => ?_)
    go_simp
    refine (whole_any W2.heap.size nd ka kc W2.drew (Nat.le_refl _) HK2.out hlen).mono ?_
    rintro e w3 ⟨ka3, kc3, rfl, hs3, hb3, hq3⟩
    refine hK.out _ _ (⟨below_cell hb3 (Nat.le_refl _) hHeld.1, below_cell hb3 (Nat.le_refl _) hHeld.2.1, below_cell hb3 (Nat.le_refl _) hHeld.2.2.1, below_cell hb3 (Nat.le_refl _) hHeld.2.2.2.1, below_cell hb3 (Nat.le_refl _) hHeld.2.2.2.2.1, below_cell hb3 (Nat.le_refl _) hHeld.2.2.2.2.2.1, below_cell hb3 (Nat.le_refl _) hHeld.2.2.2.2.2.2⟩) (fun hHeld => ?_)
    clear hK K
    try simp only [Act.put, sA, sB, sC]
    refine wpAnyT_tail (by kernel_rfl) ?_
    simp only [List.drop_succ_cons, List.drop_zero]
    obtain ⟨W4, hrun4, hA4, hg4⟩ := (((HA2.out.below ((Below.refl W2.heap.size W2).drew) (Nat.le_refl _)).map.below hb3 (Nat.le_refl _)).imp (Z' := fun q => Z q ∨ w.heap.size ≤ q ∧ q < w3.heap.size) (fun q h => .inl h)).store hc (HI.out) nd ka3 kc3 hs3 hlen (fun q hq => .inr ⟨by have h1 := (hq3 q hq).1; have h2 : W2.drew.heap.size = W2.heap.size := rfl; have h3 := hsz2; omega, (hq3 q hq).2⟩)
    have HFIN := Lib.hid (HN.out _ _ hb3 hA4 hg4)
    clear hA4 hg4 hs3 hb3 hq3 hHeld HK2 HA2 HN
    go_wp2_with fail
    go_ret
    exact ⟨rfl, HFIN.out⟩
 exact hmain _ rfl
end Go.Proofs.YtoelmnamlnbdhaaGreatDoor
namespace Go.Proofs.YtoelmnamlnbdhaaGreatDoor
open Go.RowKit
def ParIn (M : Nat → Option Hg.Node) (id : Nat) (S : Nat → Prop) (p : Nat) (k : Int) : Prop :=
 (p = 0 ∧ k = 0 ∧ ∀ i nd, S i → M i = some nd → idxI nd.kids id < 0) ∨
 (p ≠ 0 ∧ S p ∧ (∃ nd, M p = some nd ∧ idxI nd.kids id = k ∧ 0 ≤ k) ∧ ∀ i nd, S i → M i = some nd → 0 ≤ idxI nd.kids id → p ≤ i)
theorem ParIn.skip {M : Nat → Option Hg.Node} {id : Nat} {S S' : Nat → Prop} {p : Nat} {k : Int} (h : ParIn M id S p k) {x : Nat} {nx : Hg.Node} (hx : M x = some nx) (hS : ∀ i, S' i ↔ S i ∨ i = x)
 (hk : idxI nx.kids id < 0 ∨ (p ≠ 0 ∧ p ≤ x)) : ParIn M id S' p k := by
 rcases h with ⟨h1, h2, h3⟩ | ⟨h1, h2, h3, h4⟩
 ·
  left
  refine ⟨h1, h2, fun i nd hi hn => ?_⟩
  rcases (hS i).1 hi with h | h
  ·
   exact h3 i nd h hn
  ·
   subst h
   rw [hx] at hn; injection hn with hn; subst hn
   rcases hk with hk | hk
   ·
    exact hk
   ·
    exact absurd h1 hk.1
 ·
  right
  refine ⟨h1, (hS p).2 (.inl h2), h3, fun i nd hi hn h0 => ?_⟩
  rcases (hS i).1 hi with h | h
  ·
   exact h4 i nd h hn h0
  ·
   subst h
   rw [hx] at hn; injection hn with hn; subst hn
   rcases hk with hk | hk
   ·
    omega
   ·
    exact hk.2
theorem ParIn.take {M : Nat → Option Hg.Node} {id : Nat} {S S' : Nat → Prop} {p : Nat} {k : Int} (h : ParIn M id S p k) {x : Nat} {nx : Hg.Node} (hx : M x = some nx) (hx0 : x ≠ 0) (hS : ∀ i, S' i ↔ S i ∨ i = x)
 (hk : 0 ≤ idxI nx.kids id) (hp : p = 0 ∨ x < p) : ParIn M id S' x (idxI nx.kids id) := by
 right
 refine ⟨hx0, (hS x).2 (.inr rfl), ⟨nx, hx, rfl, hk⟩, fun i nd hi hn h0 => ?_⟩
 rcases (hS i).1 hi with h' | h'
 ·
  rcases h with ⟨h1, h2, h3⟩ | ⟨h1, h2, h3, h4⟩
  ·
   have := h3 i nd h' hn; omega
  ·
   have := h4 i nd h' hn h0
   rcases hp with hp | hp
   ·
    exact absurd hp h1
   ·
    omega
 ·
  omega
def ParentRes (w : World) (M : Nat → Option Hg.Node) (id : Nat) (e : Ending) (w' : World) : Prop :=
 ∃ p k, ParIn M id (fun i => i < idTop) p k ∧ p < idTop ∧ e = .returned (.tuple #[.int .u64 (p : Int), .int .i64 k]) ∧ Below w.heap.size w w'
theorem entry_is {w : World} {D : DataW Value} {M : Nat → Option Hg.Node} (hk : ∀ id, id < idTop → ArKey w D id (M id)) {x : Int} {c : Value} {kl : Lit} {y : DataW Value} {ps : List MemPlace}
 (h1 : keyOf Tryz.prog 45 (.int .u64 x) = some kl) (h2 : rawR c = some (y, ps)) (h3 : ∀ zd, D.atKey kl zd = y) :
 ∃ (i : Nat) (nd : Hg.Node) (ka : Option Addr) (kc : Nat), x = (i : Int) ∧ i < idTop ∧ kl = idL i ∧ M i = some nd ∧ c = ndV nd ka kc ∧ Sl w w.heap.size (.slice ka nd.kids.length kc) nd.kids.length (nd.kids.map idV) := by
 obtain ⟨x', e1, e2, hw⟩ := Maps.keyOf_int_inv Tryz.underlying45 h1
 injection e1 with _ e1
 subst e1
 have hw' : 0 ≤ x ∧ x ≤ 18446744073709551615 := by
  have m1 : IntKind.u64.min = 0 := rfl
  have m2 : IntKind.u64.max = 18446744073709551615 := rfl
  simpa [Lit.wf, m1, m2] using hw
 obtain ⟨i, rfl⟩ := Int.eq_ofNat_of_zero_le hw'.1
 have hi : i < idTop := by unfold idTop; omega
 have hx := hk i hi
 have hkl : kl = idL i := e2
 simp only [rawR, Option.some.injEq, Prod.mk.injEq] at h2
 obtain ⟨h2, _⟩ := h2
 subst h2
 cases hM : M i with
 | none =>
   rw [hM] at hx
   have := Maps.has_true_of_atKey h3
   rw [hkl, show Maps.has D (idL i) = false from hx] at this
   cases this
 | some nd =>
   rw [hM] at hx
   obtain ⟨ka, kc, g1, g2, _⟩ := hx
   have g := g1 (.held c)
   rw [← hkl, h3] at g
   refine ⟨i, nd, ka, kc, rfl, hi, hkl, hM, ?_, g2⟩
   simpa using g
theorem left_next {left : Lit → Bool} {i j : Nat} (hi : i < idTop) (hj : j < idTop) : (left (idL j) && !(idL j).sameKey (idL i)) = false ↔ left (idL j) = false ∨ j = i := by
 by_cases e : j = i
 ·
  subst e
  rw [WideAt.sameKey_self (keyedId.key (keyOf_id hj))]
  simp
 ·
  rw [Maps.sameKey_ne (idL_ne e)]
  simp [e]
set_option maxHeartbeats 4000000 in
set_option maxRecDepth 100000 in
theorem arparent_any (ab mb c : Nat) (M : Nat → Option Hg.Node) (id : Nat) (w : World) (hA : ArAt w ab mb c M) (hM0 : M 0 = none) :
 Calls Tryz.prog 101 #[.pointer (some ⟨ab, 0, none⟩), .int .u64 (id : Int)] w (ParentRes w M id) := by
 obtain ⟨c0, f0⟩ := hA.read
 have HA := Lib.hid hA
 obtain ⟨⟨D, ho, hc, hk⟩, hbd⟩ := hA.map
 have HK := Lib.hid hk
 have HBD := Lib.hid hbd
 have HM0 := Lib.hid hM0
 clear hA hk hbd hM0 f0 hc
 go_enter Tryz.func101, Tryz.ntmps101
 go_wp2_with (at_range; refine wpList_range_own _ rfl (.tmp 16) 56 rfl 45 70 keyedId Tryz.underlying56 rawR mb c D rfl ho ?_; intro w0 hrg0 hg0 hs0)
 go_frame
 have hb0 := below_of_none hg0
 clear hg0 c0
 go_loopw [6, 7] (fun p k wr => ∃ (pn : Nat) (kn : Int) (left : Lit → Bool) (cnt : Nat), p = .int .u64 (pn : Int) ∧ k = .int .i64 kn ∧ pn < idTop ∧ wr.ranges Tryz.prog 45 rawR mb w.heap.size c D left cnt ∧ ParIn M id (fun i => i < idTop ∧ left (idL i) = false) pn kn ∧ Below w.heap.size w wr) (fun _ _ wr => wr.rangeLeft mb w.heap.size)
 case atStart =>
  refine ⟨0, 0, _, _, rfl, rfl, by decide, hrg0, .inl ⟨rfl, rfl, fun i nd hi hn => ?_⟩, hb0⟩
  have hi : i < idTop ∧ Maps.has D (idL i) = false := hi
  have hx := HK.out i hi.1
  rw [hn] at hx
  obtain ⟨_, _, g1, _⟩ := hx
  rw [Maps.has_true_of_atKey g1] at hi
  cases hi.2
 case round =>
  obtain ⟨pn, kn, left, cnt, rfl, rfl, hpt, hrg, hpar, hbw⟩ := hrel
  clear hrg0 hb0 hs0 ho
  have HPT := Lib.hid hpt
  have HP := Lib.hid hpar
  clear hpt hpar
  go_wp2_with (at_next; refine wpList_next_ranges (α := Int) (β := Value) _ rfl (.tmp 17) rfl 45 keyedId rawR (Value.int .u64) (fun v => v) (fun key kl hkey => by obtain ⟨x, rfl, _⟩ := Maps.keyOf_int_inv Tryz.underlying45 hkey; exact ⟨x, rfl⟩) (fun v y hv => ⟨v, rfl⟩) mb w.heap.size c D left cnt rfl hrg ?_ ?_)
  ·
   intro h0 hl
   have hfun : (fun i => i < idTop ∧ left (idL i) = false) = fun i => i < idTop := by
    funext i
    rw [hl]
    simp
   have HP2 := Lib.hid (hfun ▸ HP.out)
   clear hl hfun h0 hrg HP
   go_wp2
   go_ret2
   exact ⟨pn, kn, HP2.out, HPT.out, rfl, hbw⟩
  ·
   intro x cv kl y ps w1 cnt1 hkx hlx hrx hax hrg1 hlt1 hg1 hs1 hen
   obtain ⟨i, nd, ka, kc, rfl, hi, rfl, hMi, rfl, hsl⟩ := entry_is HK.out hkx hrx hax
   have hrlt := hrg.lt
   have hle := hrg.left_eq
   have hb1 : Below w.heap.size w w1 := hbw.grown hg1 (by omega) (fun k hk => by injection hk with hk; omega)
   have hi0 : i ≠ 0 := fun e => by have := HM0.out; rw [← e, hMi] at this; cases this
   have hlen := HBD.out i nd hMi
   have HS : ∀ j, (j < idTop ∧ (left (idL j) && !(idL j).sameKey (idL i)) = false) ↔ (j < idTop ∧ left (idL j) = false) ∨ j = i := by
    intro j
    constructor
    ·
     rintro ⟨h1, h2⟩
     rcases (left_next hi h1).1 h2 with h3 | h3
     ·
      exact .inl ⟨h1, h3⟩
     ·
      exact .inr h3
    ·
     rintro (⟨h1, h2⟩ | h1)
     ·
      exact ⟨h1, (left_next hi h1).2 (.inl h2)⟩
     ·
      subst h1; exact ⟨hi, (left_next hi hi).2 (.inr rfl)⟩
   have HSK := Lib.hid HS
   have HSL := Lib.hid hsl
   have HMI := Lib.hid hMi
   have HR1 := Lib.hid hrg1
   have HLE := Lib.hid hle
   have HIT := Lib.hid hi
   have HI0 := Lib.hid hi0
   clear hkx hlx hrx hax hrg hg1 hsl hMi HS hrg1 hle hi hi0
   have hnb : ∀ z, Below w.heap.size w (w1.alloc (.cells z 70)) := fun z => hb1.alloc hb1.size _
   have TI := Lib.hid (fun W (h : Below w.heap.size w W) => index_any w.heap.size _ nd.kids id W (HSL.out.below h (Nat.le_refl _)) hlen)
   have hend : ∀ z, (w1.alloc (.cells z 70)).ranges Tryz.prog 45 rawR mb w.heap.size c D (fun z => left z && !z.sameKey (idL i)) cnt1 := fun z => HR1.out.alloc _
   have HE := Lib.hid hend
   have HNB := Lib.hid hnb
   have hskip : idxI nd.kids id < 0 ∨ (pn ≠ 0 ∧ pn ≤ i) → ParIn M id (fun j => j < idTop ∧ (left (idL j) && !(idL j).sameKey (idL i)) = false) pn kn := fun h => HP.out.skip HMI.out HSK.out h
   have htake : 0 ≤ idxI nd.kids id → (pn = 0 ∨ i < pn) → ParIn M id (fun j => j < idTop ∧ (left (idL j) && !(idL j).sameKey (idL i)) = false) i (idxI nd.kids id) := fun h k => HP.out.take HMI.out HI0.out HSK.out h k
   have HSKIP := Lib.hid hskip
   have HTAKE := Lib.hid htake
   generalize idxI nd.kids id = q at TI HSKIP HTAKE
   clear hnb hend hskip htake hlen HP HSK HI0
   by_cases hq : 0 ≤ q
   ·
    have hq1 : decide (0 ≤ q) = true := by simpa using hq
    by_cases hp0 : pn = 0
    ·
     have ht := Lib.hid (HTAKE.out hq (.inl hp0))
     have hp1 : ((pn : Int) == 0) = true := by simp [hp0]
     have HP0 := Lib.hid hp0
     have HQ := Lib.hid hq
     clear hp0 hq HSKIP HTAKE
     go_wp2_with (go_at_call 104; refine (TI.out _ (HNB.out _)).mono ?_; rintro e w2 ⟨rfl, rfl⟩)
     go_roundw
     case rel => exact ⟨i, q, _, cnt1, rfl, rfl, HIT.out, HE.out _, ht.out, HNB.out _⟩
     case measure => rw [(HE.out _).left_eq, HLE.out]; exact hlt1
    ·
     by_cases hip : i < pn
     ·
      have ht := Lib.hid (HTAKE.out hq (.inr hip))
      have hp1 : ((pn : Int) == 0) = false := by simp; omega
      have hp2 : decide ((i : Int) < (pn : Int)) = true := by simpa using hip
      have hp3 : decide (i < pn) = true := by simpa using hip
      have HP0 := Lib.hid hp0
      have HQ := Lib.hid hq
      have HIP := Lib.hid hip
      clear hp0 hq hip HSKIP HTAKE
      go_wp2_with (go_at_call 104; refine (TI.out _ (HNB.out _)).mono ?_; rintro e w2 ⟨rfl, rfl⟩)
      go_roundw
      case rel => exact ⟨i, q, _, cnt1, rfl, rfl, HIT.out, HE.out _, ht.out, HNB.out _⟩
      case measure => rw [(HE.out _).left_eq, HLE.out]; exact hlt1
     ·
      have ht := Lib.hid (HSKIP.out (.inr ⟨hp0, by omega⟩))
      have hp1 : ((pn : Int) == 0) = false := by simp; omega
      have hp2 : decide ((i : Int) < (pn : Int)) = false := by simp; omega
      have hp3 : decide (i < pn) = false := by simp; omega
      have HP0 := Lib.hid hp0
      have HQ := Lib.hid hq
      have HIP := Lib.hid hip
      clear hp0 hq hip HSKIP HTAKE
      go_wp2_with (go_at_call 104; refine (TI.out _ (HNB.out _)).mono ?_; rintro e w2 ⟨rfl, rfl⟩)
      go_roundw
      case rel => exact ⟨pn, kn, _, cnt1, rfl, rfl, HPT.out, HE.out _, ht.out, HNB.out _⟩
      case measure => rw [(HE.out _).left_eq, HLE.out]; exact hlt1
   ·
    have ht := Lib.hid (HSKIP.out (.inl (by omega)))
    have hq1 : decide (0 ≤ q) = false := by simp; omega
    have HQ := Lib.hid hq
    clear hq HSKIP HTAKE
    go_wp2_with (go_at_call 104; refine (TI.out _ (HNB.out _)).mono ?_; rintro e w2 ⟨rfl, rfl⟩)
    go_roundw
    case rel => exact ⟨pn, kn, _, cnt1, rfl, rfl, HPT.out, HE.out _, ht.out, HNB.out _⟩
    case measure => rw [(HE.out _).left_eq, HLE.out]; exact hlt1
end Go.Proofs.YtoelmnamlnbdhaaGreatDoor
namespace Go.Proofs.YtoelmnamlnbdhaaGreatDoor
open Go.RowKit
inductive Chain (M : Nat → Option Hg.Node) (kind : Nat) : Nat → Nat → Prop
 | zero : Chain M kind 0 0
 | none (id : Nat) (h : M id = none) : Chain M kind id 0
 | hit (id : Nat) (n : Hg.Node) (h0 : id ≠ 0) (h : M id = some n) (hk : n.kind = kind) : Chain M kind id id
 | step (id : Nat) (n : Hg.Node) (p : Nat) (k : Int) (r : Nat) (h0 : id ≠ 0) (h : M id = some n) (hk : n.kind ≠ kind) (hp : ParIn M id (fun i => i < idTop) p k) (hr : Chain M kind p r) : Chain M kind id r
theorem ParIn.unique {M : Nat → Option Hg.Node} {id : Nat} {S : Nat → Prop} {p p' : Nat} {k k' : Int} (h : ParIn M id S p k) (h' : ParIn M id S p' k') : p = p' ∧ k = k' := by
 rcases h with ⟨h1, h2, h3⟩ | ⟨h1, h2, ⟨nd, hn, h3, h5⟩, h4⟩
 ·
  rcases h' with ⟨g1, g2, g3⟩ | ⟨g1, g2, ⟨nd', hn', g3, g5⟩, g4⟩
  ·
   exact ⟨h1.trans g1.symm, h2.trans g2.symm⟩
  ·
   have := h3 p' nd' g2 hn'; omega
 ·
  rcases h' with ⟨g1, g2, g3⟩ | ⟨g1, g2, ⟨nd', hn', g3, g5⟩, g4⟩
  ·
   have := g3 p nd h2 hn; omega
  ·
   have a1 := h4 p' nd' g2 hn' (by omega)
   have a2 := g4 p nd h2 hn (by omega)
   have e : p = p' := by omega
   subst e
   rw [hn] at hn'; injection hn' with hn'; subst hn'
   exact ⟨rfl, h3.symm.trans g3⟩
def SetAt (w : World) (sb n cur : Nat) : Prop := ∃ D, w.ownsMap Tryz.prog 45 rawR sb n D ∧ ∀ j, j ≤ cur → Maps.has D (idL j) = false
theorem SetAt.look {w : World} {sb n cur : Nat} (h : SetAt w sb n cur) (hc : cur < idTop) : (Instr.lookup 138 (.map (some sb)) (.int .u64 (cur : Int)) false).run Tryz.prog w = .ok (.bool false) w := by
 obtain ⟨D, ho, hs⟩ := h
 have hz : (zeroValue 4).run Tryz.prog w = .ok (.bool false) w := by kernel_rfl
 obtain ⟨v, ps, hrun, hv⟩ := ho.lookup keyedId Tryz.underlying138 hz (zd := .held (.bool false)) (zp := []) rfl (keyOf_id hc)
 rw [Maps.atKey_of_not_has (hs cur (Nat.le_refl _))] at hv
 simp only [rawR, Option.some.injEq, Prod.mk.injEq] at hv
 have e : v = .bool false := by simpa using hv.1
 rw [hrun, e]
theorem SetAt.put {w : World} {sb n cur : Nat} (h : SetAt w sb n cur) (hc : cur < idTop) (hn : n ≤ 1000000000) (p : Nat) (hp : p < cur) :
 ∃ w', (Instr.mapUpdate 138 (.map (some sb)) (.int .u64 (cur : Int)) (.bool true)).run Tryz.prog w = .ok () w' ∧ SetAt w' sb (n + 1) p ∧ w.grownBy w' (some sb) := by
 obtain ⟨D, ho, hs⟩ := h
 obtain ⟨w', hrun, ho', hg⟩ := ho.update keyedId Tryz.underlying138 (by unfold maxLen; omega) (keyOf_id hc) (val := .bool true) (d := .held (.bool true)) (ps := []) rfl
 refine ⟨w', hrun, ⟨_, ho', fun j hj => ?_⟩, hg⟩
 rw [Maps.has_put_other (idL_ne (by omega))]
 exact hs j (by omega)
theorem SetAt.below {w w' : World} {sb n cur B : Nat} (h : SetAt w sb n cur) (hb : Below B w w') (hB : w.heap.size ≤ B) : SetAt w' sb n cur := by
 obtain ⟨D, ho, hs⟩ := h
 exact ⟨D, ho.kept (below_grown (hb.mono hB) none) (by simp), hs⟩
theorem SetAt.lt {w : World} {sb n cur : Nat} (h : SetAt w sb n cur) : sb < w.heap.size := by
 obtain ⟨D, ho, _⟩ := h
 exact ho.lt
set_option maxHeartbeats 4000000 in
set_option maxRecDepth 100000 in
theorem above_any (ab mb c : Nat) (M : Nat → Option Hg.Node) (kind id r : Nat) (w : World) (hA : ArAt w ab mb c M) (hM0 : M 0 = none) (hid : id ≤ 1000000) (hkind : ∀ i n, M i = some n → n.kind ≤ 255) (hk255 : kind ≤ 255)
 (hdec : ∀ i n p k, M i = some n → ParIn M i (fun i => i < idTop) p k → p < i ∨ p = 0) (hch : Chain M kind id r) :
 Calls Tryz.prog 105 #[.pointer (some ⟨ab, 0, none⟩), .int .u64 (id : Int), .int .u8 (kind : Int)] w fun e w' => e = .returned (.int .u64 (r : Int)) ∧ Below w.heap.size w w' := by
 have hmm := @run_makeMap Tryz.prog
 have hlt := hA.lt
 have HA := Lib.hid hA
 have HM0 := Lib.hid hM0
 have HDEC := Lib.hid hdec
 have HCH := Lib.hid hch
 have HKD := Lib.hid hkind
 clear hA hM0 hdec hch hkind
 go_enter Tryz.func105, Tryz.ntmps105
 go_wp2
 have hb0 : Below w.heap.size w (w.alloc (.map #[] 0)) := (Below.refl _ _).alloc (Nat.le_refl _) _
 have hs0 : SetAt (w.alloc (.map #[] 0)) w.heap.size 0 id := ⟨.map [], World.ownsMap_made w _ _ _, fun j _ => rfl⟩
 clear hmm
 go_loopw [1] (fun p wr => ∃ (cur n : Nat), p = .int .u64 (cur : Int) ∧ cur ≤ 1000000 ∧ n + cur ≤ 2000000 ∧ SetAt wr w.heap.size n cur ∧ Chain M kind cur r ∧ Below w.heap.size w wr) (fun p wr => (intOf p).toNat)
 case atStart => exact ⟨id, 0, rfl, hid, by omega, hs0, HCH.out, hb0⟩
 case round =>
  obtain ⟨cur, n, rfl, hc6, hn6, hset, hch, hbw⟩ := hrel
  have HS := Lib.hid hset
  have hsb := hset.lt
  have hct : cur < idTop := by unfold idTop; omega
  clear hb0 hs0 hset HCH
  by_cases h0 : cur = 0
  ·
   subst h0
   have hr0 : r = 0 := by
    cases hch with
    | zero => rfl
    | none _ _ => rfl
    | hit _ _ h0 _ _ => exact absurd rfl h0
    | step _ _ _ _ _ h0 _ _ _ _ => exact absurd rfl h0
   subst hr0
   clear hch
   go_wp2
   go_ret
   exact ⟨rfl, hbw⟩
  ·
   have hq0 : ((cur : Int) == 0) = false := by simp; omega
   have hq0' : ((cur : Int) != 0) = true := by simp; omega
   have hlk := HS.out.look hct
   have hB : w.heap.size ≤ wr.heap.size := hbw.size
   have TG := get_any ab mb c M cur wr (HA.out.below hbw (Nat.le_refl _)) hct
   have HQ := Lib.hid h0
   clear h0
   cases hM : M cur with
   | none =>
     have hr0 : r = 0 := by
      cases hch with
      | zero => rfl
      | none _ _ => rfl
      | hit _ n _ h _ => rw [hM] at h; cases h
      | step _ n _ _ _ _ h _ _ _ => rw [hM] at h; cases h
     subst hr0
     rw [hM] at TG
     have TG := Lib.hid TG
     clear hch hM
     go_wp2_with fail
     refine TG.out.mono ?_
     rintro e w1 ⟨ka, kc, rfl, hs1, hb1⟩
     simp only [Option.getD_none, Option.isSome_none]
     have hb1' := hbw.trans (hb1.mono hB)
     clear hs1 hb1 hlk
     go_wp2
     go_ret
     exact ⟨rfl, hb1'.alloc hb1'.size _⟩
   | some nd =>
     rw [hM] at TG
     have TG := Lib.hid TG
     have hkn := HKD.out cur nd hM
     by_cases hk : nd.kind = kind
     ·
      have hr0 : r = cur := by
       cases hch with
       | zero => exact absurd rfl HQ.out
       | none _ h => rw [hM] at h; cases h
       | hit _ n _ h _ => rfl
       | step _ n _ _ _ _ h hk2 _ _ => rw [hM] at h; injection h with h; subst h; exact absurd hk hk2
      subst hr0
      have hk1 : ((nd.kind : Int) == (kind : Int)) = true := by simp [hk]
      clear hch hM hk
      go_wp2_with fail
      refine TG.out.mono ?_
      rintro e w1 ⟨ka, kc, rfl, hs1, hb1⟩
      simp only [Option.getD_some, Option.isSome_some]
      have hb1' := hbw.trans (hb1.mono hB)
      clear hs1 hb1 hlk
      go_wp2
      go_ret
      exact ⟨rfl, hb1'.alloc hb1'.size _⟩
     ·
      have hst : ∃ p k, ParIn M cur (fun i => i < idTop) p k ∧ Chain M kind p r := by
       cases hch with
       | zero => exact absurd rfl HQ.out
       | none _ h => rw [hM] at h; cases h
       | hit _ n _ h hk2 => rw [hM] at h; injection h with h; subst h; exact absurd hk2 hk
       | step _ n p k _ _ h _ hp hr => exact ⟨p, k, hp, hr⟩
      obtain ⟨p, k, hp, hr⟩ := hst
      have hpc : p < cur := by
       rcases HDEC.out cur nd p k hM hp with h | h
       ·
        exact h
       ·
        have := HQ.out; omega
      have HP := Lib.hid hp
      have HR := Lib.hid hr
      have hk1 : ((nd.kind : Int) == (kind : Int)) = false := by simp; omega
      clear hch hM hk hp hr
      go_wp2_with fail
      refine TG.out.mono ?_
      rintro e w1 ⟨ka, kc, rfl, hs1, hb1⟩
      simp only [Option.getD_some, Option.isSome_some]
      have hb1' := hbw.trans (hb1.mono hB)
      have hset2 : SetAt (w1.alloc (.cells #[.int .u8 (nd.kind : Int), strV nd.name, .int .i64 nd.num, .int .u8 (nd.type : Int), .int .u64 (nd.ref : Int), .slice ka nd.kids.length kc] 70)) w.heap.size n cur :=
       (HS.out.below hb1 (Nat.le_refl _)).below ((Below.refl _ _).alloc (Nat.le_refl _) _) (Nat.le_refl _)
      obtain ⟨W2, hrun2, hset3, hg2⟩ := hset2.put hct (by omega) p hpc
      have hb2 : Below w.heap.size w W2 := (hb1'.alloc hb1'.size _).grown hg2 (by have := hb1'.size; simp; omega) (fun k hk => by injection hk with hk; omega)
      have HS3 := Lib.hid hset3
      have TP := Lib.hid (arparent_any ab mb c M cur W2 (HA.out.below hb2 (Nat.le_refl _)) HM0.out)
      have hB2 := hb2.size
      clear hs1 hb1 hlk hset2 hg2 hset3
      go_wp2_with fail
      refine TP.out.mono ?_
      rintro e w3 ⟨p', k', hp', _, rfl, hb3⟩
      obtain ⟨rfl, rfl⟩ := HP.out.unique hp'
      have HS4 := Lib.hid (HS3.out.below hb3 (Nat.le_refl _))
      have hb4 := hb2.trans (hb3.mono hB2)
      clear hrun2 hp' hb3
      go_wp2
      go_roundw
      case rel => exact ⟨p, n + 1, rfl, by omega, by omega, HS4.out, HR.out, hb4⟩
      case measure => simp [intOf]; omega
end Go.Proofs.YtoelmnamlnbdhaaGreatDoor
