/-
  Part of a proof of RunLoops: contracts of functions that the claim reaches, and plain lemmas.
-/
import Derived.Test.YtoelmnamlnbdhaaGreatDoorKfBP
import Derived.Test.YtoelmnamlnbdhaaGreatDoorKfAR
set_option linter.all false
namespace Hg
def tKids (M : Nat → Option Node) (id : Nat) : List Nat → List (Nat × Nat) → List Nat → Option (List (Nat × Nat) × List Nat)
 | [], deep, next => some (deep, next)
 | k :: ks, deep, next => if (gl deep k).isSome ∨ (M k).isNone ∨ 200 ≤ (gl deep id).getD 0 ∨ 1000000 ≤ deep.length ∨ 1000000 ≤ next.length then none else tKids M id ks ((k, (gl deep id).getD 0 + 1) :: deep) (next ++ [k])
def tLevel (M : Nat → Option Node) : List Nat → List (Nat × Nat) → List Nat → Option (List (Nat × Nat) × List Nat)
 | [], deep, next => some (deep, next)
 | id :: ids, deep, next => if (M id).isNone then none else match tKids M id (ndAt M id).kids deep next with
   | none => none
   | some r => tLevel M ids r.1 r.2
def tRun (M : Nat → Option Node) : Nat → List Nat → List (Nat × Nat) → Option (List (Nat × Nat))
 | 0, _, _ => none
 | _ + 1, [], deep => some deep
 | f + 1, i :: l, deep => match tLevel M (i :: l) deep [] with
   | none => none
   | some r => tRun M f r.2 r.1
structure TreeK (M : Nat → Option Node) (F : Nat) (R : List (Nat × Nat)) : Prop where
 root : ∃ nd, M 1 = some nd ∧ nd.kind = 1
 run : tRun M F [1] [(1, 1)] = some R
 all : ∀ i, (gl R i).isSome = (M i).isSome
 refs : ∀ i nd, M i = some nd → nd.ref < 18446744073709551616 ∧ (nd.ref = 0 ∨ (M nd.ref).isSome = true)
end Hg
namespace Go.Proofs.YtoelmnamlnbdhaaGreatDoor
open Go.RowKit Go.ChangeMaps Go.MapKept Go.WideShapes
open Go.WideElems (Fit rd rg)
open Hg (GT gl wk isK ndAt kidsK KB tKids tLevel tRun TreeK)
theorem id_keys {R : Value → Option (DataW Value × List MemPlace)} {w : World} {b n : Nat} {D : DataW Value} (ho : w.ownsMap Tryz.prog 45 R b n D) :
 ∃ es : List (Lit × DataW Value), D = .map es ∧ (es.map (·.1)).Nodup ∧ ∀ p ∈ es, ∃ i, i < idTop ∧ p.1 = idL i := by
 obtain ⟨es, he, hp⟩ := ho.tidy keyedId
 refine ⟨es, he, ?_, fun p hpm => ?_⟩
 ·
  rw [List.Nodup, List.pairwise_map]
  exact hp
 ·
  obtain ⟨es0, clock, hb, F, hs, hD⟩ := ho
  rw [he] at hD
  injection hD with hD
  subst hD
  have hm := (sorted_perm _).mem_iff.1 hpm
  obtain ⟨v, hv⟩ := Maps.fit_keys F p hm
  obtain ⟨x, e1, e2, hw⟩ := Maps.keyOf_int_inv Tryz.underlying45 hv
  have hw' : 0 ≤ x ∧ x ≤ 18446744073709551615 := by
   have m1 : IntKind.u64.min = 0 := rfl
   have m2 : IntKind.u64.max = 18446744073709551615 := rfl
   simpa [Lit.wf, m1, m2] using hw
  obtain ⟨i, rfl⟩ := Int.eq_ofNat_of_zero_le hw'.1
  exact ⟨i, by unfold idTop; omega, e2⟩
theorem id_sizes {R1 R2 : Value → Option (DataW Value × List MemPlace)} {w1 w2 : World} {b1 n1 b2 n2 : Nat} {D1 D2 : DataW Value} (h1 : w1.ownsMap Tryz.prog 45 R1 b1 n1 D1) (h2 : w2.ownsMap Tryz.prog 45 R2 b2 n2 D2)
 (h : ∀ i, i < idTop → Maps.has D1 (idL i) = Maps.has D2 (idL i)) : Maps.size D1 = Maps.size D2 := by
 obtain ⟨e1, rfl, n1, k1⟩ := id_keys h1
 obtain ⟨e2, rfl, n2, k2⟩ := id_keys h2
 have hmem : ∀ (es : List (Lit × DataW Value)) i, i < idTop → (Maps.has (.map es) (idL i) = true ↔ idL i ∈ es.map (·.1)) := by
  intro es i hi
  rw [Maps.has_eq, List.any_eq_true]
  constructor
  ·
   rintro ⟨p, hp, hs⟩
   exact List.mem_map.2 ⟨p, hp, WideAt.sameKey_eq hs⟩
  ·
   intro hm
   obtain ⟨p, hp, e⟩ := List.mem_map.1 hm
   exact ⟨p, hp, by rw [e]; exact WideAt.sameKey_self (keyedId.key (keyOf_id hi))⟩
 have hp : (e1.map (·.1)).Perm (e2.map (·.1)) := by
  rw [List.perm_ext_iff_of_nodup n1 n2]
  intro l
  constructor
  ·
   intro hl
   obtain ⟨p, hp, rfl⟩ := List.mem_map.1 hl
   obtain ⟨i, hi, e⟩ := k1 p hp
   rw [e] at hl ⊢
   rw [← hmem _ i hi, ← h i hi, hmem _ i hi]
   exact hl
  ·
   intro hl
   obtain ⟨p, hp, rfl⟩ := List.mem_map.1 hl
   obtain ⟨i, hi, e⟩ := k2 p hp
   rw [e] at hl ⊢
   rw [← hmem _ i hi, h i hi, hmem _ i hi]
   exact hl
 have := hp.length_eq
 simpa [Maps.size_eq] using this
theorem ArAtZ.lookW {Z : Nat → Prop} {w : World} {ab mb c : Nat} {M : Nat → Option Hg.Node} (h : ArAtZ Z w ab mb c M) {id : Nat} (hid : id < idTop) :
 ∃ ka kc, Sl w w.heap.size (.slice ka (ndAt M id).kids.length kc) (ndAt M id).kids.length ((ndAt M id).kids.map idV) ∧ ∀ W, Below w.heap.size w W →
   (Instr.lookup 56 (.map (some mb)) (.int .u64 (id : Int)) true).run Tryz.prog W = .ok (.tuple #[ndV (ndAt M id) ka kc, .bool (M id).isSome]) W ∧
   (Instr.lookup 56 (.map (some mb)) (.int .u64 (id : Int)) false).run Tryz.prog W = .ok (ndV (ndAt M id) ka kc) W := by
 obtain ⟨⟨D, ho, hc, hk⟩, hbd⟩ := h.map
 have hx := hk id hid
 have hz : ∀ W, (zeroValue 70).run Tryz.prog W = .ok (ndV Hg.Node.zero none 0) W := fun W => by kernel_rfl
 unfold ndAt
 cases hM : M id with
 | none =>
   rw [hM] at hx
   have hx' : Maps.has D (idL id) = false := hx
   refine ⟨none, 0, Sl.nil _ _, fun W hb => ?_⟩
   have ho2 := ho.kept (below_grown hb none) (by simp)
   obtain ⟨v, ps, hrun, hv⟩ := ho2.look_ok keyedId Tryz.underlying56 (hz W) (zd := .held (ndV Hg.Node.zero none 0)) (zp := []) rfl (keyOf_id hid)
   obtain ⟨v2, ps2, hrun2, hv2⟩ := ho2.lookup keyedId Tryz.underlying56 (hz W) (zd := .held (ndV Hg.Node.zero none 0)) (zp := []) rfl (keyOf_id hid)
   simp only [rawR, Option.some.injEq, Prod.mk.injEq] at hv hv2
   rw [Maps.atKey_of_not_has hx'] at hv hv2
   have e : v = ndV Hg.Node.zero none 0 := by simpa using hv.1
   have e2 : v2 = ndV Hg.Node.zero none 0 := by simpa using hv2.1
   exact ⟨by rw [hrun, hx', e]; rfl, by rw [hrun2, e2]; rfl⟩
 | some nd =>
   rw [hM] at hx
   obtain ⟨ka, kc, h1, h2, h3⟩ := hx
   refine ⟨ka, kc, h2, fun W hb => ?_⟩
   have ho2 := ho.kept (below_grown hb none) (by simp)
   obtain ⟨v, ps, hrun, hv⟩ := ho2.look_ok keyedId Tryz.underlying56 (hz W) (zd := .held (ndV Hg.Node.zero none 0)) (zp := []) rfl (keyOf_id hid)
   obtain ⟨v2, ps2, hrun2, hv2⟩ := ho2.lookup keyedId Tryz.underlying56 (hz W) (zd := .held (ndV Hg.Node.zero none 0)) (zp := []) rfl (keyOf_id hid)
   simp only [rawR, Option.some.injEq, Prod.mk.injEq] at hv hv2
   rw [h1] at hv hv2
   have e : v = ndV nd ka kc := by simpa using hv.1
   have e2 : v2 = ndV nd ka kc := by simpa using hv2.1
   exact ⟨by rw [hrun, Maps.has_true_of_atKey h1, e]; rfl, by rw [hrun2, e2]; rfl⟩
theorem ranges_keep {k : TypeId} {R : Value → Option (DataW Value × List MemPlace)} {w w' : World} {b r n : Nat} {D : DataW Value} {left : Lit → Bool} {cnt : Nat} (h : w.ranges Tryz.prog k R b r n D left cnt) (hb : Below w.heap.size w w') : w'.ranges Tryz.prog k R b r n D left cnt := by
 have h1 := h.lt
 have h2 := h.owns.lt
 obtain ⟨es, clock, since, seen, c0, e1, e2, e3, e4, e5, e6⟩ := h
 exact ⟨es, clock, since, seen, c0, (hb.block b h2).trans e1, e2, e3, e4, (hb.block r h1).trans e5, e6⟩
def dV (l : List (Nat × Nat)) : List (Nat × Value) := l.map fun p => (p.1, .int .i64 (p.2 : Int))
theorem gl_dV (l : List (Nat × Nat)) (k : Nat) : gl (dV l) k = (gl l k).map fun d => .int .i64 (d : Int) := Hg.gl_map (fun d : Nat => Value.int .i64 (d : Int)) l k
structure TrSt (M : Nat → Option Hg.Node) (R : List (Nat × Nat)) (mk : Nat) (w : World) (f : Nat) (v : Value) (wr : World) (lvl : List Nat) (deep : List (Nat × Nat)) : Prop where
 own : wr.ownsRow w.heap.size 45 1 v lvl.length (lvl.map idV)
 mp : IMap wr mk (dV deep)
 bel : Below w.heap.size w wr
 run : tRun M f lvl deep = some R
 top : ∀ x ∈ lvl, x < idTop
 len : lvl.length ≤ 1000000
structure LvSt (mk : Nat) (w0 wr : World) (u : Value) (deep : List (Nat × Nat)) (next : List Nat) : Prop where
 own : wr.ownsRow w0.heap.size 45 1 u next.length (next.map idV)
 mp : IMap wr mk (dV deep)
 fr : Fr (fun q => q = mk ∨ w0.heap.size ≤ q) w0 wr
 top : ∀ x ∈ next, x < idTop
 len : next.length ≤ 1000000
theorem fieldT5 (n : Hg.Node) (ka : Option Addr) (kc : Nat) (W : World) : (Instr.field 70 (ndV n ka kc) 5).run Tryz.prog W = .ok (.slice ka n.kids.length kc) W := by kernel_rfl
def RgSt (mb cA : Nat) (D : DataW Value) (wE wr : World) : Prop := ∃ left cnt, wr.ranges Tryz.prog 45 rawR mb wE.heap.size cA D left cnt ∧ Below wE.heap.size wE wr
set_option maxHeartbeats 8000000 in
set_option maxRecDepth 100000 in
theorem tree_any (ab : Nat) (M : Nat → Option Hg.Node) (F : Nat) (R : List (Nat × Nat)) (w : World) (hA : ArOk w ab M) (hT : TreeK M F R) :
 Calls Tryz.prog 54 #[.pointer (some ⟨ab, 0, none⟩)] w fun e w' => e = .returned (.bool true) ∧ Below w.heap.size w w' := by
 obtain ⟨j0, hJ, hJ0, hJ1, hJ2⟩ := info_parts idInfo30
 obtain ⟨⟨mb, cA, hAr⟩, hkb⟩ := hA
 have HAR := Lib.hid hAr
 have HKB := Lib.hid hkb
 clear hAr hkb
 have hA : ArOk w ab M := ⟨⟨mb, cA, HAR.out⟩, HKB.out⟩
 have hzi : ∀ W : World, (zeroValue 3).run Tryz.prog W = .ok (.int .i64 0) W := fun W => by kernel_rfl
 have HA := Lib.hid hA
 have HT := Lib.hid hT
 obtain ⟨nd, hM1, hk1⟩ := hT.root
 have TR := Lib.hid (root_any ab w)
 have TG := Lib.hid (show Calls Tryz.prog 33 #[.pointer (some ⟨ab, 0, none⟩), .int .u64 ((1 : Nat) : Int)] w (GetResO w (some nd)) from hM1 ▸ hA.get (by decide))
 have hq : ((nd.kind : Int) != 1) = false := by simp [hk1]
 have hq2 : ((nd.kind : Int) == 1) = true := by simp [hk1]
 clear hA hT hM1 hk1
 go_enter Tryz.func54, Tryz.ntmps54
 go_wp2_with fail
 refine TR.out.mono ?_
 rintro e w ⟨rfl, rfl⟩
 clear TR
 go_wp2_with fail
 refine TG.out.mono ?_
 rintro e w2 ⟨ka, kc, rfl, ho, hb2⟩
 have HB2 := Lib.hid hb2
 clear TG ho hb2
 go_wp2
 have hb3 := HB2.out.alloc HB2.out.size (.cells (ndCells nd ka kc) 70)
 generalize World.alloc w2 _ = W2 at hb3 ⊢
 have hb4 := hb3.alloc hb3.size (.map #[] 0)
 obtain ⟨W3, hrun3, hU3, hg3⟩ := (XMap.made 45 idV W2).put (t := 135) keyedId Tryz.underlying135 (fun x y h => by injection h with _ h; exact Int.ofNat.inj h) (by simp) 1 ⟨_, keyOf_id (by decide)⟩ (.int .i64 1)
 replace hrun3 : (Instr.mapUpdate 135 (.map (some W2.heap.size)) (.int .u64 1) (.int .i64 1)).run Tryz.prog (W2.alloc (.map #[] 0)) = .ok () W3 := hrun3
 have hf3 : Fr (fun q => w.heap.size ≤ q) (W2.alloc (.map #[] 0)) W3 := (Fr.of_grown hg3 (fun q e => (Option.some.inj e).symm)).imp (fun q _ e => by have := hb3.size; omega)
 have hb5 : Below w.heap.size w W3 := hb4.trans (hf3.below' hb4.size)
 have hn4 := heap_alloc_new W3 (.cells #[.int .u64 1] 45)
 have HST := Lib.hid (show TrSt M R W2.heap.size w F (.slice (some ⟨W3.heap.size, 0, none⟩) 1 1) (W3.alloc (.cells #[.int .u64 1] 45)) [1] [(1, 1)] from
  ⟨⟨rfl, .inr ⟨W3.heap.size, 1, #[idV 1], rfl, hb5.size, hn4, Nat.le_refl _, by unfold maxLen; omega, rfl, rfl⟩⟩, hU3.fr ((Fr.refl (fun _ => False) W3).alloc _) (fun e => e), hb5.alloc hb5.size _, HT.out.run, by simp [idTop], by simp⟩)
 have HMK := Lib.hid hb3.size
 generalize hmk : W2.heap.size = mk at HST HMK ⊢ hrun3
 rw [run_makeMap]
 go_wp2
 generalize World.alloc W3 _ = W4 at HST ⊢
 clear hb3 hb4 hU3 hg3 hrun3 hf3 hb5 hn4 HB2 hq hq2
 go_loopw [6] (fun p wr => ∃ v f lvl deep, p = v ∧ TrSt M R mk w f v wr lvl deep) (fun p wr => Hg.least (fun f => ∃ lvl deep, TrSt M R mk w f p wr lvl deep))
 case atStart => exact ⟨_, F, [1], [(1, 1)], rfl, HST.out⟩
 case round =>
  rename World => wE
  obtain ⟨v, f', lvl', deep', hv, hrel⟩ := hrel
  have hv := hv.symm
  subst hv
  have hl := Hg.least_spec (p := fun f => ∃ lvl deep, TrSt M R mk w f v wE lvl deep) ⟨f', lvl', deep', hrel⟩
  generalize hf0 : Hg.least _ = f at hl
  have HF0 := Lib.hid hf0
  clear hrel hf0 HST
  obtain ⟨lvl, deep, hS⟩ := hl
  have HS := Lib.hid hS
  obtain ⟨a6, c6, rfl⟩ := (Sl.of_own hS.own).form
  have hrun := hS.run
  have hll := hS.len
  clear hS
  cases f with
  | zero => cases hrun
  | succ f =>
  cases lvl with
  | nil =>
    have hrun : deep = R := Option.some.inj hrun
    subst hrun
    obtain ⟨c0, f0⟩ := (HAR.out.below HS.out.bel (Nat.le_refl _)).read
    obtain ⟨⟨D, ho, hsz, hk⟩, hbd⟩ := (HAR.out.below HS.out.bel (Nat.le_refl _)).map
    obtain ⟨n9, D9, hn9, ho9, hs9⟩ := HS.out.mp
    have hsz9 : Maps.size D9 = Maps.size D := id_sizes ho9 ho (fun i hi => by
     have h1 := hs9 i (idL i) (keyOf_id hi)
     have h2 := hk i hi
     have h3 := HT.out.all i
     rw [gl_dV] at h1
     have e1 : Maps.has D9 (idL i) = (gl deep i).isSome := by
      cases hg : gl deep i with
      | none => rw [hg] at h1; exact h1
      | some d => rw [hg] at h1; exact Maps.has_true_of_atKey h1
     have e2 : Maps.has D (idL i) = (M i).isSome := by
      cases hm : M i with
      | none => rw [hm] at h2; exact h2
      | some d => rw [hm] at h2; obtain ⟨_, _, g1, _⟩ := h2; exact Maps.has_true_of_atKey g1
     rw [e1, e2, h3])
    have HK := Lib.hid hk
    have HO9 := Lib.hid (And.intro ho9 hsz9)
    have HREF := Lib.hid HT.out.refs
    clear f0 hk hbd hsz hn9 hs9 ho9 hsz9 hll hrun
    go_wp2_with (at_range; refine wpList_range_own _ rfl (.tmp 100) 56 rfl 45 70 keyedId Tryz.underlying56 rawR mb cA D rfl ho ?_; intro w0 hrg0 hg0 hs0)
    go_frame
    have hb0 := below_of_none hg0
    clear hg0 c0
    go_loopw [19] (fun p wr => RgSt mb cA D wE wr) (fun _ wr => wr.rangeLeft mb wE.heap.size)
    case atStart => exact ⟨_, _, hrg0, hb0⟩
    case round =>
     obtain ⟨left, cnt, hrg, hbw⟩ := hrel
     clear hrg0 hb0 hs0
     go_wp2_with (at_next; refine wpList_next_ranges (α := Int) (β := Value) _ rfl (.tmp 101) rfl 45 keyedId rawR (Value.int .u64) (fun v => v) (fun key kl hkey => by obtain ⟨x, rfl, _⟩ := Maps.keyOf_int_inv Tryz.underlying45 hkey; exact ⟨x, rfl⟩) (fun v y hv => ⟨v, rfl⟩) mb wE.heap.size cA D left cnt rfl hrg ?_ ?_)
     ·
      intro h0 hl
      have HBW := Lib.hid (HS.out.bel.trans (hbw.mono HS.out.bel.size))
      have hl1 := (HO9.out.1.kept (below_grown hbw none) (by simp)).drew.len Tryz.underlying135 3
      have hl2 := hrg.owns.drew.len Tryz.underlying56 3
      rw [HO9.out.2] at hl1
      obtain ⟨c0, f0⟩ := (HAR.out.below HBW.out (Nat.le_refl _)).read
      clear hl h0 hrg hbw f0 ho
      go_wp2
      have HBD := Lib.hid HBW.out.drew
      have hHeld : (fun w' => w'.cell? ⟨ab, 0, none⟩ = some (.map (some mb)) ∧ (Builtin.len_ #[135] 3 #[.map (some mk)]).run Tryz.prog w' = .ok (.int .i64 (Maps.size D : Int)) w' ∧ (Builtin.len_ #[56] 3 #[.map (some mb)]).run Tryz.prog w' = .ok (.int .i64 (Maps.size D : Int)) w') wr.drew := ⟨c0, hl1, hl2⟩
      refine wp_region_two (fun w' => w'.cell? ⟨ab, 0, none⟩ = some (.map (some mb)) ∧ (Builtin.len_ #[135] 3 #[.map (some mk)]).run Tryz.prog w' = .ok (.int .i64 (Maps.size D : Int)) w' ∧ (Builtin.len_ #[56] 3 #[.map (some mb)]).run Tryz.prog w' = .ok (.int .i64 (Maps.size D : Int)) w') 8 (by kernel_rfl) ?_
      refine tk 0 ?_ rfl (by kernel_rfl) (fun _ _ _ h => h) ‹_› (by rfl) ?_ ?_
      rotate_left
      · (intro w' hSw; (try dsimp only at hSw); go_simp; try with_reducible rfl)
      try simp only [Act.put, sA, sB, sC, sD, sE, sF]
      refine tk 1 ?_ rfl (by kernel_rfl) (fun _ _ _ h => h) ‹_› (by rfl) ?_ ?_
      rotate_left
      · (intro w' hSw; (try dsimp only at hSw); go_simp; try with_reducible rfl)
      try simp only [Act.put, sA, sB, sC, sD, sE, sF]
      refine tk 2 ?_ rfl (by kernel_rfl) (fun _ _ _ h => h) ‹_› (by rfl) ?_ ?_
      rotate_left
      · (intro w' hSw; (try dsimp only at hSw); go_simp; try with_reducible rfl)
      try simp only [Act.put, sA, sB, sC, sD, sE, sF]
      refine tk 3 ?_ rfl (by kernel_rfl) (fun _ _ _ h => h) ‹_› (by rfl) ?_ ?_
      rotate_left
      · (intro w' hSw; (try dsimp only at hSw); go_simp; try with_reducible rfl)
      try simp only [Act.put, sA, sB, sC, sD, sE, sF]
      refine tk 4 ?_ rfl (by kernel_rfl) (fun _ _ _ h => h) ‹_› (by rfl) ?_ ?_
      rotate_left
      · (intro w' hSw; (try dsimp only at hSw); go_simp; try with_reducible rfl)
      try simp only [Act.put, sA, sB, sC, sD, sE, sF]
      refine tk 5 ?_ rfl (by kernel_rfl) (fun _ _ _ h => h) ‹_› (by rfl) ?_ ?_
      rotate_left
      · (intro w' hSw; (try dsimp only at hSw); go_simp; try with_reducible rfl)
      try simp only [Act.put, sA, sB, sC, sD, sE, sF]
      refine tk 6 ?_ rfl (by kernel_rfl) (fun _ _ _ h => h) ‹_› (by rfl) ?_ ?_
      rotate_left
      · (intro w' hSw; (try dsimp only at hSw); go_simp; try with_reducible rfl)
      try simp only [Act.put, sA, sB, sC, sD, sE, sF]
      refine tk 7 ?_ rfl (by kernel_rfl) (fun _ _ _ h => h) ‹_› (by rfl) ?_ ?_
      rotate_left
      · (intro w' hSw; (try dsimp only at hSw); go_simp; try with_reducible rfl)
      try simp only [Act.put, sA, sB, sC, sD, sE, sF]
      refine wpAnyT_tail (by kernel_rfl) ?_
      simp only [List.drop_succ_cons, List.drop_zero]
      clear hHeld hl1 hl2 c0
      go_wp2
      go_ret
      exact ⟨rfl, HBD.out⟩
     ·
      intro x cv kl y ps w1 cnt1 hkx hlx hrx hax hrg1 hlt1 hg1 hs1 hen
      obtain ⟨i, nx, ka1, kc1, rfl, hi, rfl, hMi, rfl, hsl⟩ := entry_is HK.out hkx hrx hax
      have hrlt := hrg.lt
      have hle := hrg.left_eq
      have hb1 : Below wE.heap.size wE w1 := hbw.grown hg1 hbw.size (fun k hk => by injection hk with hk; omega)
      obtain ⟨hrf, hr0⟩ := HREF.out i nx hMi
      clear hkx hlx hrx hax hrg hg1 hMi hi hsl hs1
      go_wp2
      have hb5 := hb1.alloc hb1.size (.cells (ndCells nx ka1 kc1) 70)
      have hn5 := heap_alloc_new w1 (.cells (ndCells nx ka1 kc1) 70)
      have hr5 := hrg1.alloc (.cells (ndCells nx ka1 kc1) 70)
      have hz5 : w1.heap.size < (w1.alloc (.cells (ndCells nx ka1 kc1) 70)).heap.size := by simp
      simp only [ndCells] at hb5 hn5 hr5 hz5
      generalize World.alloc w1 _ = W5 at hb5 hn5 hr5 hz5 ⊢
      have hbE := HS.out.bel.trans (hb5.mono HS.out.bel.size)
      have e4 := cell_of_row W5 w1.heap.size 4 _ _ (0, 0) hn5
      simp at e4
      generalize w1.heap.size = blk at hz5 hn5 e4 ⊢
      obtain ⟨kr, cr, hslr, hlkr⟩ := HAR.out.lookW hrf
      have hso : nx.ref = 0 ∨ (M nx.ref).isSome = true := hr0
      generalize hsoe : (M nx.ref).isSome = so at hlkr hso
      obtain ⟨c5, f5⟩ := (HAR.out.below hbE (Nat.le_refl _)).read
      have hal := (HAR.out.below hbE (Nat.le_refl _)).lt
      have HL := Lib.hid hlkr
      have HBE := Lib.hid hbE
      have HB5 := Lib.hid hb5
      have HR5 := Lib.hid hr5
      have hHeld : (fun w' => w'.cell? ⟨ab, 0, none⟩ = some (.map (some mb)) ∧ w'.cell? ⟨blk, 4, none⟩ = some (.int .u64 (nx.ref : Int)) ∧ (Instr.lookup 56 (.map (some mb)) (.int .u64 (nx.ref : Int)) true).run Tryz.prog w' = .ok (.tuple #[ndV (ndAt M nx.ref) kr cr, .bool so]) w') W5.drew := ⟨c5, e4, (hlkr _ hbE.drew).1⟩
      have hHeld0 := hHeld
      clear hlkr hslr hbE hb5 hr5 hn5 hrg1 hb1 c5 f5 e4 hr0 hrf hsoe
      refine wp_region_two (fun w' => w'.cell? ⟨ab, 0, none⟩ = some (.map (some mb)) ∧ w'.cell? ⟨blk, 4, none⟩ = some (.int .u64 (nx.ref : Int)) ∧ (Instr.lookup 56 (.map (some mb)) (.int .u64 (nx.ref : Int)) true).run Tryz.prog w' = .ok (.tuple #[ndV (ndAt M nx.ref) kr cr, .bool so]) w') 12 (by kernel_rfl) ?_
      refine tk 0 ?_ rfl (by kernel_rfl) (fun _ _ _ h => h) ‹_› (by rfl) ?_ ?_
      rotate_left
      · (intro w' hSw; (try dsimp only at hSw); go_simp; try with_reducible rfl)
      try simp only [Act.put, sA, sB, sC, sD, sE, sF]
      refine tk 1 ?_ rfl (by kernel_rfl) (fun _ _ _ h => h) ‹_› (by rfl) ?_ ?_
      rotate_left
      · (intro w' hSw; (try dsimp only at hSw); go_simp; try with_reducible rfl)
      try simp only [Act.put, sA, sB, sC, sD, sE, sF]
      refine tk 2 ?_ rfl (by kernel_rfl) (fun _ _ _ h => h) ‹_› (by rfl) ?_ ?_
      rotate_left
      · (intro w' hSw; (try dsimp only at hSw); go_simp; try with_reducible rfl)
      try simp only [Act.put, sA, sB, sC, sD, sE, sF]
      refine tk 3 ?_ rfl (by kernel_rfl) (fun _ _ _ h => h) ‹_› (by rfl) ?_ ?_
      rotate_left
      · (intro w' hSw; (try dsimp only at hSw); go_simp; try with_reducible rfl)
      try simp only [Act.put, sA, sB, sC, sD, sE, sF]
      refine tk 4 ?_ rfl (by kernel_rfl) (fun _ _ _ h => h) ‹_› (by rfl) ?_ ?_
      rotate_left
      · (intro w' hSw; (try dsimp only at hSw); go_simp; try with_reducible rfl)
      try simp only [Act.put, sA, sB, sC, sD, sE, sF]
      refine tk 5 ?_ rfl (by kernel_rfl) (fun _ _ _ h => h) ‹_› (by rfl) ?_ ?_
      rotate_left
      · (intro w' hSw; (try dsimp only at hSw); go_simp; try with_reducible rfl)
      try simp only [Act.put, sA, sB, sC, sD, sE, sF]
      refine tk 6 ?_ rfl (by kernel_rfl) (fun _ _ _ h => h) ‹_› (by rfl) ?_ ?_
      rotate_left
      · (intro w' hSw; (try dsimp only at hSw); go_simp; try with_reducible rfl)
      try simp only [Act.put, sA, sB, sC, sD, sE, sF]
      refine tk 7 ?_ rfl (by kernel_rfl) (fun _ _ _ h => h) ‹_› (by rfl) ?_ ?_
      rotate_left
      · (intro w' hSw; (try dsimp only at hSw); go_simp; try with_reducible rfl)
      try simp only [Act.put, sA, sB, sC, sD, sE, sF]
      refine tk 8 ?_ rfl (by kernel_rfl) (fun _ _ _ h => h) ‹_› (by rfl) ?_ ?_
      rotate_left
      · (intro w' hSw; (try dsimp only at hSw); go_simp; try with_reducible rfl)
      try simp only [Act.put, sA, sB, sC, sD, sE, sF]
      refine tk 9 ?_ rfl (by kernel_rfl) (fun _ _ _ h => h) ‹_› (by rfl) ?_ ?_
      rotate_left
      · (intro w' hSw; (try dsimp only at hSw); go_simp; try with_reducible rfl)
      try simp only [Act.put, sA, sB, sC, sD, sE, sF]
      refine wpAnyT_one (i := 10) rfl (by kernel_rfl) (fun K hK => ?_)
      go_simp
      generalize hWa : World.alloc _ _ = Wa
      obtain ⟨hBa, hha, hza⟩ := new_alloc hWa
      have HBA := Lib.hid hBa
      clear hWa hBa
      refine hK.out _ _ (⟨(HBA.out.cell (p := ⟨ab, 0, none⟩) hal).trans hHeld.1, (HBA.out.cell (p := ⟨blk, 4, none⟩) hz5).trans hHeld.2.1, (HL.out _ (HBE.out.trans (HBA.out.mono HBE.out.size)).drew).1⟩) (fun hHeld => ?_)
      clear hK K
      try simp only [Act.put, sA, sB, sC, sD, sE, sF]
      refine wpAnyT_one (i := 11) rfl (by kernel_rfl) (fun K hK => ?_)
      have z2 := fun i => cell_of_row Wa W5.heap.size i _ _ (0, 0) hha
      have y0 := z2 0; have y1 := z2 1; have y2 := z2 2; have y3 := z2 3; have y4 := z2 4; have y5 := z2 5
      simp at y0 y1 y2 y3 y4 y5
      have f2 : ∀ i, Wa.frozen? ⟨W5.heap.size, i, none⟩ = false := fun i => by simp [World.frozen?, hha]
      clear z2
      go_simp
      generalize hWb : World.setCell _ _ _ = Wb
      have HBB := Lib.hid (show Below W5.heap.size W5 Wb from hWb ▸ set6_below HBA.out (Nat.le_refl _) _ _ _ _ _ _)
      clear hWb y0 y1 y2 y3 y4 y5 f2 hha hza
      refine hK.out _ _ (⟨(HBB.out.cell (p := ⟨ab, 0, none⟩) hal).trans hHeld0.1, (HBB.out.cell (p := ⟨blk, 4, none⟩) hz5).trans hHeld0.2.1, (HL.out _ (HBE.out.trans (HBB.out.mono HBE.out.size)).drew).1⟩) (fun hHeld => ?_)
      clear hK K
      try simp only [Act.put, sA, sB, sC, sD, sE, sF]
      refine wpAnyT_tail (by kernel_rfl) ?_
      simp only [List.drop_succ_cons, List.drop_zero]
      have e9 : Wb.cell? ⟨blk, 4, none⟩ = some (.int .u64 (nx.ref : Int)) := hHeld.2.1
      clear hHeld hHeld0
      have HBR := Lib.hid (HB5.out.trans ((HBB.out.mono HB5.out.size)).drew)
      have HRR := Lib.hid (ranges_keep HR5.out HBB.out.drew)
      have HRG := Lib.hid (show RgSt mb cA D wE Wb.drew from ⟨_, _, HRR.out, HBR.out⟩)
      clear HBB HL HBE
      rcases hso with h0 | h1
      ·
       have q0 : ((nx.ref : Int) != 0) = false := by simp [h0]
       go_wp2
       go_roundw
       case rel => exact HRG.out
       case measure => first | exact hlt1 | (rw [HRR.out.left_eq]; first | exact hlt1 | (rw [hle]; exact hlt1))
      ·
       have hns : (!so) = false := by simp [h1]
       clear h1
       by_cases h0 : nx.ref = 0
       ·
        have q0 : ((nx.ref : Int) != 0) = false := by simp [h0]
        go_wp2
        go_roundw
        case rel => exact HRG.out
        case measure => first | exact hlt1 | (rw [HRR.out.left_eq]; first | exact hlt1 | (rw [hle]; exact hlt1))
       ·
        have q0 : ((nx.ref : Int) != 0) = true := by simp; omega
        go_wp2
        go_roundw
        case rel => exact HRG.out
        case measure => first | exact hlt1 | (rw [HRR.out.left_eq]; first | exact hlt1 | (rw [hle]; exact hlt1))
  | cons i0 lt =>
    rw [tRun] at hrun
    cases hlv : tLevel M (i0 :: lt) deep [] with
    | none => rw [hlv] at hrun; cases hrun
    | some r =>
    rw [hlv] at hrun
    have HRUN := Lib.hid (show tRun M f r.2 r.1 = some R from hrun)
    generalize hL : i0 :: lt = L at *
    have hpos : 0 < L.length := by rw [← hL]; simp
    have HLV := Lib.hid hlv
    clear hrun hlv hL
    have HLS := Lib.hid (show LvSt mk wE wE (.slice none 0 0) deep [] from ⟨⟨rfl, .inl ⟨rfl, rfl⟩⟩, HS.out.mp, Fr.refl _ _, by simp, by simp⟩)
    have HTOP := Lib.hid HS.out.top
    have HBEL := Lib.hid HS.out.bel
    have HOWN := Lib.hid HS.out.own
    have hmkl := HS.out.mp.lt
    have hmk2 : ∀ q, (Value.slice a6 L.length c6).ownBlock = some q → ¬ (q = mk ∨ wE.heap.size ≤ q) := fun q e e' => by
     obtain ⟨es, ck, hm⟩ := HS.out.mp.obj
     rcases e' with e' | e'
     ·
      subst e'
      rcases own_not_map HS.out.own hm with h | h
      ·
       rw [h] at e; cases e
      ·
       exact h e
     ·
      have := (HS.out.own.lt q e).2; omega
    have HMK2 := Lib.hid hmk2
    clear hmk2
    go_wp2
    go_loopw [7, 42] (fun p q wr => ∃ (u : Value) (j : Nat) (dp : List (Nat × Nat)) (nx : List Nat), p = u ∧ q = .int .i64 (j : Int) ∧ j ≤ L.length ∧ LvSt mk wE wr u dp nx ∧ tLevel M (L.drop j) dp nx = some r) (fun _ q wr => L.length - (intOf q).toNat)
    case atStart => exact ⟨_, 0, deep, [], rfl, rfl, Nat.zero_le _, HLS.out, HLV.out⟩
    case round =>
     rename World => wF
     obtain ⟨u, j, dp, nx, hu, rfl, hj, hL, hlv⟩ := hrel
     have hu := hu.symm
     subst hu
     have HL := Lib.hid hL
     have hbF : Below w.heap.size w wF := HBEL.out.trans ((hL.fr.imp (D' := fun q => w.heap.size ≤ q) (fun q _ e => by have := HMK.out; have := HBEL.out.size; rcases e with e | e <;> omega)).below' HBEL.out.size)
     have HBF := Lib.hid hbF
     clear hL hbF HLS
     by_cases hlt : j < L.length
     ·
      have hof := ownsRow_fr HOWN.out HL.out.fr HMK2.out
      obtain ⟨b, o, rfl, _, kc6⟩ := (Sl.of_own hof).mapAt hlt
      rw [List.drop_eq_getElem_cons hlt, tLevel] at hlv
      have hidt := HTOP.out _ (List.getElem_mem hlt)
      generalize L[j] = id at kc6 hlv hidt
      cases hMs : (M id).isNone with
      | true => rw [hMs] at hlv; cases hlv
      | false =>
      rw [hMs, if_neg (by simp)] at hlv
      cases htk : tKids M id (ndAt M id).kids dp nx with
      | none => rw [htk] at hlv; cases hlv
      | some r2 =>
      rw [htk] at hlv
      have HLV2 := Lib.hid (show tLevel M (L.drop (j + 1)) r2.1 r2.2 = some r from hlv)
      obtain ⟨kb, kcb, hskb, hlkb⟩ := HAR.out.lookW hidt
      have hlk1 := (hlkb wF HBF.out).2
      obtain ⟨c0, f0⟩ := (HAR.out.below HBF.out (Nat.le_refl _)).read
      have HSK := Lib.hid hskb
      have hkl := HA.out.len id
      have HKT := Lib.hid (HKB.out.at id)
      have HTK := Lib.hid htk
      have hfld := fieldT5 (ndAt M id) kb kcb wF
      generalize hkids : (ndAt M id).kids = ks at *
      clear hlv htk hMs f0 hskb hlkb hof
      go_wp2
      clear hfld hlk1 c0 kc6 hkids
      go_loopw [7, 54] (fun p q wr => ∃ (u : Value) (m : Nat) (d1 : List (Nat × Nat)) (x1 : List Nat), p = u ∧ q = .int .i64 (m : Int) ∧ m ≤ ks.length ∧ LvSt mk wE wr u d1 x1 ∧ tKids M id (ks.drop m) d1 x1 = some r2) (fun _ q wr => ks.length - (intOf q).toNat)
      case atStart => exact ⟨_, 0, dp, nx, rfl, rfl, Nat.zero_le _, HL.out, HTK.out⟩
      case round =>
       rename World => wG
       obtain ⟨u1, m, d1, x1, hu1, rfl, hm, hL1, htk⟩ := hrel
       have hu1 := hu1.symm
       subst hu1
       have HL1 := Lib.hid hL1
       have hbG : Below w.heap.size w wG := HBEL.out.trans ((hL1.fr.imp (D' := fun q => w.heap.size ≤ q) (fun q _ e => by have := HMK.out; have := HBEL.out.size; rcases e with e | e <;> omega)).below' HBEL.out.size)
       have HBG := Lib.hid hbG
       clear hL1 hbG
       by_cases hltm : m < ks.length
       ·
        obtain ⟨bk, ok, rfl, _, kck⟩ := (HSK.out.below HBG.out (Nat.le_refl _)).mapAt hltm
        rw [List.drop_eq_getElem_cons hltm, tKids] at htk
        have hkt := HKT.out _ (List.getElem_mem hltm)
        generalize ks[m] = k at kck htk hkt
        by_cases hc : (gl d1 k).isSome ∨ (M k).isNone ∨ 200 ≤ (gl d1 id).getD 0 ∨ 1000000 ≤ d1.length ∨ 1000000 ≤ x1.length
        ·
         rw [if_pos hc] at htk; cases htk
        rw [if_neg hc] at htk
        simp only [not_or] at hc
        obtain ⟨hc1, hc2, hc3, hc4, hc5⟩ := hc
        have hg0 : gl d1 k = none := by simpa using hc1
        have hms : (M k).isSome = true := by
         cases hmk9 : M k with
         | none => rw [hmk9] at hc2; simp at hc2
         | some _ => rfl
        obtain ⟨kk, kkc, hskk, hlkk⟩ := HAR.out.lookW hkt
        have hlk2 := (hlkk wG HBG.out).1
        rw [hms] at hlk2
        obtain ⟨c0, f0⟩ := (HAR.out.below HBG.out (Nat.le_refl _)).read
        generalize hde : (gl d1 id).getD 0 = d at hc3 htk
        have HTK3 := Lib.hid htk
        clear hc1 hc2 hms hskk hlkk f0 htk
        go_wp2
        have hmH := HL1.out.mp.fr ((Fr.refl (fun _ => False) wG).alloc (.cells (ndCells (ndAt M k) kk kkc) 70)) (fun e => e)
        have hoH := HL1.out.own.alloc (.cells (ndCells (ndAt M k) kk kkc) 70)
        have hfH := HL1.out.fr.alloc (.cells (ndCells (ndAt M k) kk kkc) 70)
        simp only [ndCells] at hmH hoH hfH
        generalize World.alloc wG _ = wH at hmH hoH hfH ⊢
        have hd1 := hmH.look_ok (t := 135) (x := k) keyedId Tryz.underlying135 (hzi _) ⟨_, keyOf_id hkt⟩
        rw [gl_dV, hg0] at hd1
        replace hd1 : (Instr.lookup 135 (.map (some mk)) (.int .u64 (k : Int)) true).run Tryz.prog wH = .ok (.tuple #[.int .i64 0, .bool false]) wH := hd1
        have hd2 := hmH.look (t := 135) (x := id) keyedId Tryz.underlying135 (hzi _) ⟨_, keyOf_id hidt⟩
        have hgd : (gl (dV d1) id).getD (.int .i64 0) = .int .i64 (d : Int) := by
         rw [gl_dV, ← hde]
         cases gl d1 id <;> rfl
        rw [hgd] at hd2
        replace hd2 : (Instr.lookup 135 (.map (some mk)) (.int .u64 (id : Int)) false).run Tryz.prog wH = .ok (.int .i64 (d : Int)) wH := hd2
        obtain ⟨wI, hrunI, hUI, hgI⟩ := hmH.put (t := 135) keyedId Tryz.underlying135 (fun x y h => by injection h with _ h; exact Int.ofNat.inj h) (by simp [dV]; omega) k ⟨_, keyOf_id hkt⟩ (.int .i64 ((d : Int) + 1))
        replace hrunI : (Instr.mapUpdate 135 (.map (some mk)) (.int .u64 (k : Int)) (.int .i64 ((d : Int) + 1))).run Tryz.prog wH = .ok () wI := hrunI
        have hwr : IntKind.i64.wrap ((d : Int) + 1) = (d : Int) + 1 := IntWalk.i64_in _ (by omega)
        have hge : decide ((200 : Int) ≤ (d : Int)) = false := by simp; omega
        have hge2 : decide (200 ≤ d) = false := by simp; omega
        have hfI : Fr (fun q => q = mk) wH wI := Fr.of_grown hgI (fun q e => (Option.some.inj e).symm)
        have HOI := Lib.hid (ownsRow_fr hoH hfI (fun q e e' => by have := (hoH.lt q e).1; omega))
        have HUI := Lib.hid (show IMap wI mk (dV ((k, d + 1) :: d1)) from hUI)
        have HFI := Lib.hid (hfH.trans (hfI.imp (fun q _ e => .inl e)))
        have hx5 : x1.length < 1000000 := by omega
        clear hmH hoH hfH hUI hgI hfI hgd hde hg0 hc3 hc4 hc5
        first | rw [hd1] | erw [hd1]
        go_wp2_with (at_builtin; refine wpList_append_own_at _ rfl (.tmp 90) (.tmp 92) _ rfl wE.heap.size 45 j0 _ 1 8 Tryz.underlying68 hJ hJ0 hJ1 hJ2 rfl (by decide) _ x1.length (x1.map idV) rfl (HOI.out.alloc _) ⟨wI.heap.size, 0, none⟩ 1 1 [idV k] rfl rfl (cells_new _ _ _) ?_ ?_ ?_ ?_ ?_)
        all_goals first
         | intro v3 W3' own3 g3 _ at3
         | (unfold maxLen; omega)
         | omega
         | (simp; have := HFI.out.size; omega)
         | (intro u hu; simp only [List.mem_singleton] at hu; subst hu; rfl)
        have hgF := (Fr.refl (fun q => u1.ownBlock = some q) wI).alloc (.cells #[idV k] 45)
        have hg9 := hgF.step g3 (fun q e => .inl e)
        have HL3 := Lib.hid (show LvSt mk wE W3' v3 ((k, d + 1) :: d1) (x1 ++ [k]) from
         ⟨by rw [List.map_append, List.length_append]; exact own3,
          HUI.out.fr hg9 (fun e => by have := (HOI.out.lt _ e).1; omega),
          HFI.out.trans (hg9.imp (fun q _ e => .inr (HOI.out.lt _ e).1)),
          fun x hx => by
           rcases List.mem_append.1 hx with h | h
           ·
            exact HL1.out.top x h
           ·
            simp at h; subst h; exact hkt,
          by simp; omega⟩)
        clear own3 g3 at3 hgF hg9
        go_wp2
        go_roundw
        case rel => exact ⟨v3, m + 1, (k, d + 1) :: d1, x1 ++ [k], rfl, by go_num, by omega, HL3.out, HTK3.out⟩
        case measure => simp [intOf]; omega
       ·
        obtain rfl : m = ks.length := by omega
        rw [List.drop_length] at htk
        have htk : (d1, x1) = r2 := Option.some.inj htk
        subst htk
        go_wp2
        go_roundw
        case rel => exact ⟨u1, j + 1, d1, x1, rfl, by go_num, by omega, HL1.out, HLV2.out⟩
        case measure => simp [intOf]; omega
     ·
      obtain rfl : j = L.length := by omega
      rw [List.drop_length] at hlv
      have hlv : (dp, nx) = r := Option.some.inj hlv
      subst hlv
      have HT2 := Lib.hid (show TrSt M R mk w f u wF nx dp from ⟨ownsRow_base HL.out.own HBEL.out.size, HL.out.mp, HBF.out, HRUN.out, HL.out.top, HL.out.len⟩)
      go_wp2
      go_roundw
      case rel => exact ⟨u, f, nx, dp, rfl, HT2.out⟩
      case measure =>
       have := Hg.least_le (p := fun f => ∃ lvl deep, TrSt M R mk w f u wF lvl deep) ⟨nx, dp, HT2.out⟩
       have := HF0.out
       omega
end Go.Proofs.YtoelmnamlnbdhaaGreatDoor
namespace Hg
def lastK (M : Nat → Option Node) (ks : List Nat) : Bool := ks.foldl (fun _ k => (ndAt M k).kind == 10) false
def retsK (M : Nat → Option Node) (par : Nat → Nat × Int) (id : Nat) (n : Node) : Bool := lastK M n.kids == ((ndAt M (par id).1).kind == 3)
end Hg
namespace Go.Proofs.YtoelmnamlnbdhaaGreatDoor
open Go.RowKit
open Hg (GT gl wk isK ndAt kidsK KB lastK retsK)
theorem kindEq (a b : Nat) : ((a : Int) == (b : Int)) = (a == b) := by
 by_cases h : a = b
 ·
  subst h; rw [beq_self_eq_true, beq_self_eq_true]
 ·
  rw [beq_eq_false_iff_ne.2 h, beq_eq_false_iff_ne.2 (by omega)]
set_option maxHeartbeats 4000000 in
set_option maxRecDepth 100000 in
theorem returns_any (ab : Nat) (M : Nat → Option Hg.Node) (par : Nat → Nat × Int) (hp : ParOk M par) (id : Nat) (n : Hg.Node) (ka : Option Addr) (kc : Nat) (w : World) (hA : ArOk w ab M)
 (hs : Sl w w.heap.size (.slice ka n.kids.length kc) n.kids.length (n.kids.map idV)) (hl : n.kids.length ≤ 1000000) (hk : ∀ k ∈ n.kids, k < idTop) :
 Calls Tryz.prog 59 #[.pointer (some ⟨ab, 0, none⟩), .int .u64 (id : Int), ndV n ka kc] w fun e w' => e = .returned (.bool (retsK M par id n)) ∧ Below w.heap.size w w' := by
 have hb0 : Below w.heap.size w (w.alloc (.cells (ndCells n ka kc) 70)) := (Below.refl _ _).alloc (Nat.le_refl _) _
 have hn0 := heap_alloc_new w (.cells (ndCells n ka kc) 70)
 simp only [ndCells] at hb0 hn0
 have HA := Lib.hid hA
 have HS := Lib.hid hs
 have HK := Lib.hid hk
 have TP := Lib.hid (hp.call (hA.below hb0) id)
 unfold retsK
 generalize hr : (lastK M n.kids == ((ndAt M (par id).1).kind == 3)) = r
 have HR := Lib.hid hr
 generalize (par id) = pk at TP HR
 obtain ⟨p, pi⟩ := pk
 dsimp only at TP HR
 clear hA hs hk hp hr
 go_enter Tryz.func59, Tryz.ntmps59
 go_wp2_with fail
 generalize World.alloc w _ = W0 at TP hb0 hn0 ⊢
 have HB0 := Lib.hid hb0
 have hz0 := hb0.size
 have HN0 := Lib.hid hn0
 clear hb0 hn0
 refine TP.out.mono ?_
 rintro e w1 ⟨rfl, hpl, hb1⟩
 have HB1 := Lib.hid (HB0.out.trans (hb1.mono hz0))
 have HB01 := Lib.hid hb1
 have TG := Lib.hid ((HA.out.below HB1.out).getN hpl)
 clear TP hb1
 go_wp2_with fail
 refine TG.out.mono ?_
 rintro e w2 ⟨ka2, kc2, rfl, ho2, hb2⟩
 have hb3 := (hb2.alloc hb2.size (.cells (ndCells (ndAt M p) ka2 kc2) 70))
 have hn3 := heap_alloc_new w2 (.cells (ndCells (ndAt M p) ka2 kc2) 70)
 have e5 := cell_of_row (w2.alloc (.cells (ndCells (ndAt M p) ka2 kc2) 70)) w.heap.size 5 _ _ (0, 0) (((HB01.out.trans (hb3.mono HB01.out.size)).block w.heap.size (by have := (Array.getElem?_eq_some_iff.1 HN0.out).1; omega)).trans HN0.out)
 simp only [ndCells] at hb3 hn3 e5
 simp at e5
 clear TG ho2 hb2
 have HR2 := Lib.hid (show (lastK M n.kids == ((ndAt M p).kind == 3)) = r from HR.out)
 go_wp2
 generalize World.alloc w2 _ = W3 at hb3 hn3 e5 ⊢
 have HB3 := Lib.hid (HB1.out.trans (hb3.mono HB1.out.size))
 have HN3 := Lib.hid hn3
 have HW2 := Lib.hid (show w2.heap.size < W3.heap.size from (Array.getElem?_eq_some_iff.1 hn3).1)
 clear hn3 hb3 e5
 generalize w2.heap.size = nb at HN3 HW2 ⊢
 go_loopw [11, 31] (fun p q wr => ∃ i : Nat, p = .bool (lastK M (n.kids.take i)) ∧ q = .int .i64 (i : Int) ∧ i ≤ n.kids.length ∧ Below W3.heap.size W3 wr) (fun _ q wr => n.kids.length - (intOf q).toNat)
 case atStart => exact ⟨0, by simp [lastK], rfl, Nat.zero_le _, Below.refl _ _⟩
 case round =>
  obtain ⟨i, rfl, rfl, hi, hb⟩ := hrel
  have HB := Lib.hid hb
  have hzr := hb.size
  have hb4 := HB3.out.trans (hb.mono HB3.out.size)
  have HB4 := Lib.hid hb4
  by_cases hlt : i < n.kids.length
  ·
   obtain ⟨b, o, rfl, _, kck⟩ := (HS.out.below hb4 (Nat.le_refl _)).mapAt hlt
   have hkt := HK.out _ (List.getElem_mem hlt)
   have hlast : lastK M (n.kids.take (i + 1)) = ((ndAt M n.kids[i]).kind == 10) := by
    rw [List.take_succ_eq_append_getElem hlt]
    unfold lastK
    rw [List.foldl_append]
    rfl
   generalize n.kids[i] = k at kck hkt hlast
   have TG := Lib.hid ((HA.out.below hb4).getN hkt)
   rw [← kindEq] at hlast
   have HLA := Lib.hid hlast
   generalize lastK M (n.kids.take i) = l0
   clear hb hb4 hlast
   go_wp2_with fail
   refine TG.out.mono ?_
   rintro e w5 ⟨ka5, kc5, rfl, ho5, hb5⟩
   have HB5 := Lib.hid ((HB.out.trans (hb5.mono hzr)).alloc (HB.out.trans (hb5.mono hzr)).size (.cells (ndCells (ndAt M k) ka5 kc5) 70))
   clear TG ho5 hb5
   go_wp2
   go_roundw
   case rel => exact ⟨i + 1, by rw [HLA.out]; rfl, by go_num, by omega, HB5.out⟩
   case measure => simp [intOf]; omega
  ·
   obtain rfl : i = n.kids.length := by omega
   rw [List.take_length]
   have hlk : (wr.cell? ⟨nb, 0, none⟩) = some (.int .u8 ((ndAt M p).kind : Int)) := by
    have := cell_of_row wr nb 0 _ _ (0, 0) ((HB.out.block nb HW2.out).trans HN3.out)
    simpa using this
   have hr := HR2.out
   rw [← kindEq] at hr
   have HR3 := Lib.hid hr
   generalize lastK M n.kids = l1 at HR3 ⊢
   clear hb hb4 hr
   go_wp2
   go_ret
   exact ⟨ret_bool HR3.out, HB4.out⟩
end Go.Proofs.YtoelmnamlnbdhaaGreatDoor
