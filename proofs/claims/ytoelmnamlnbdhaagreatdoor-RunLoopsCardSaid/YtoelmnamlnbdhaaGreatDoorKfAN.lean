/-
  Part of a proof of RunLoops: contracts of functions that the claim reaches, and plain lemmas.
-/
import Derived.Test.YtoelmnamlnbdhaaGreatDoorKfAL
import Derived.Test.YtoelmnamlnbdhaaGreatDoorKfAJ
import Derived.Test.YtoelmnamlnbdhaaGreatDoorKfAI
import Derived.Maps.RangeWalk
set_option linter.all false
namespace Go.Proofs.YtoelmnamlnbdhaaGreatDoor
open Go.RowKit
end Go.Proofs.YtoelmnamlnbdhaaGreatDoor
namespace Go.Proofs.YtoelmnamlnbdhaaGreatDoor
open Go.RowKit
theorem below_grown {w w' : World} (h : Below w.heap.size w w') (row : Option Nat) : w.grownBy w' row := ⟨h.os, h.tape, h.output, h.size, fun k hk _ => h.block k hk⟩
end Go.Proofs.YtoelmnamlnbdhaaGreatDoor
namespace Go.Proofs.YtoelmnamlnbdhaaGreatDoor
open Go.RowKit
def idxI (ids : List Nat) (id : Nat) : Int := match ids.findIdx? (· == id) with | some k => (k : Int) | none => -1
theorem idx_hit (l : List Nat) (id k : Nat) (hk : k < l.length) (h : l[k] = id) (hno : ∀ (j : Nat) (x : Nat), j < k → l[j]? = some x → x ≠ id) : idxI l id = (k : Int) := by
 have : l.findIdx? (· == id) = some k := by
  rw [List.findIdx?_eq_some_iff_getElem]
  exact ⟨hk, by simpa using h, fun j hj => by simpa using hno j l[j] hj (List.getElem?_eq_getElem (by omega))⟩
 simp [idxI, this]
theorem idx_miss (l : List Nat) (id : Nat) (hno : ∀ (j : Nat) (x : Nat), j < l.length → l[j]? = some x → x ≠ id) : idxI l id = -1 := by
 have : l.findIdx? (· == id) = none := by
  rw [List.findIdx?_eq_none_iff]
  intro x hx
  obtain ⟨j, hj, he⟩ := List.mem_iff_getElem.1 hx
  simpa using hno j x hj (by rw [List.getElem?_eq_getElem hj, he])
 simp [idxI, this]
set_option maxHeartbeats 800000 in
set_option maxRecDepth 100000 in
theorem index_any (B : Nat) (v : Value) (ids : List Nat) (id : Nat) (w : World) (hs : Sl w B v ids.length (ids.map idV)) (hl : ids.length ≤ 1000000) :
 Calls Tryz.prog 104 #[v, .int .u64 (id : Int)] w fun e w' => e = .returned (.int .i64 (idxI ids id)) ∧ w = w' := by
 have HS := Lib.hid hs
 obtain ⟨a, c, rfl⟩ := hs.form
 clear hs
 go_enter Tryz.func104, Tryz.ntmps104
 go_wp2
 go_loopw [8] (fun i wr => ∃ k : Nat, k ≤ ids.length ∧ i = .int .i64 k ∧ w = wr ∧ ∀ (j : Nat) (x : Nat), j < k → ids[j]? = some x → x ≠ id) (fun i wr => ids.length - (intOf i).toNat)
 case atStart => exact ⟨0, by omega, rfl, by first | trivial | rfl, fun j r hj => by omega⟩
 case round =>
  obtain ⟨k, hk, rfl, rfl, hno⟩ := hrel
  have HN := Lib.hid hno
  clear hno
  by_cases hlt : k < ids.length
  ·
   obtain ⟨b, o, rfl, _, kc⟩ := HS.out.idAt hlt
   by_cases hid : ids[k] = id
   ·
    have hq : ((id : Int) == (ids[k] : Int)) = true := by simp [hid]
    have HI := Lib.hid hid
    clear hid
    go_wp2
    go_ret
    exact ⟨ret_i64 (idx_hit ids id k hlt HI.out HN.out).symm, rfl⟩
   ·
    have hq : ((id : Int) == (ids[k] : Int)) = false := by simp; omega
    have HI := Lib.hid hid
    clear hid
    go_wp2
    go_roundw
    case rel => exact ⟨k + 1, by omega, by go_num, by first | trivial | rfl, fun j x hj hx => by
     by_cases e : j = k
     ·
      subst e; rw [List.getElem?_eq_getElem hlt] at hx; injection hx with hx; rw [← hx]; exact HI.out
     ·
      exact HN.out j x (by omega) hx⟩
    case measure => simp [intOf]; omega
  ·
   obtain rfl : k = ids.length := by omega
   go_wp2
   go_ret
   exact ⟨ret_i64 (idx_miss ids id HN.out).symm, rfl⟩
def rawR (v : Value) : Option (DataW Value × List MemPlace) := some (.held v, [])
def idTop : Nat := 18446744073709551616
abbrev idL (n : Nat) : Lit := .int .u64 (n : Int)
theorem keyedId : Maps.Keyed Tryz.prog 45 := Maps.int_keyed Tryz.underlying45
theorem idL_wf {n : Nat} (h : n < idTop) : (idL n).wf = true := by
 unfold idTop at h
 have h1 : IntKind.u64.min = 0 := rfl
 have h2 : IntKind.u64.max = 18446744073709551615 := rfl
 simp [Lit.wf, h1, h2]
 omega
theorem keyOf_id {n : Nat} (h : n < idTop) : keyOf Tryz.prog 45 (.int .u64 (n : Int)) = some (idL n) := Maps.keyOf_int_mk Tryz.underlying45 (idL_wf h)
def ArKeyZ (Z : Nat → Prop) (w : World) (D : DataW Value) (id : Nat) : Option Hg.Node → Prop
 | none => Maps.has D (idL id) = false
 | some nd => ∃ ka kc, (∀ z, D.atKey (idL id) z = .held (ndV nd ka kc)) ∧ Sl w w.heap.size (.slice ka nd.kids.length kc) nd.kids.length (nd.kids.map idV) ∧
   ∀ q, (Value.slice ka nd.kids.length kc).ownBlock = some q → Z q
abbrev ArKey := ArKeyZ (fun _ => True)
structure ArMapZ (Z : Nat → Prop) (w : World) (mb c : Nat) (M : Nat → Option Hg.Node) : Prop where
 own : ∃ D, w.ownsMap Tryz.prog 45 rawR mb c D ∧ Maps.size D = c ∧ ∀ id, id < idTop → ArKeyZ Z w D id (M id)
 bd : ∀ id nd, M id = some nd → nd.kids.length ≤ 1000000
theorem ArMapZ.lt {Z : Nat → Prop} {w : World} {mb c : Nat} {M : Nat → Option Hg.Node} (h : ArMapZ Z w mb c M) : mb < w.heap.size := by
 obtain ⟨⟨D, ho, _⟩, _⟩ := h
 exact ho.lt
theorem ArMapZ.below {Z : Nat → Prop} {w w' : World} {mb c B : Nat} {M : Nat → Option Hg.Node} (h : ArMapZ Z w mb c M) (hb : Below B w w') (hB : w.heap.size ≤ B) : ArMapZ Z w' mb c M := by
 have hb' : Below w.heap.size w w' := hb.mono hB
 obtain ⟨⟨D, ho, hc, hk⟩, hbd⟩ := h
 refine ⟨⟨D, ho.kept (below_grown hb' none) (by simp), hc, fun id hid => ?_⟩, hbd⟩
 have hx := hk id hid
 cases hM : M id with
 | none => rw [hM] at hx; exact hx
 | some nd =>
   rw [hM] at hx
   obtain ⟨ka, kc, h1, h2, h3⟩ := hx
   exact ⟨ka, kc, h1, (h2.below hb' (Nat.le_refl _)).more hb'.size, h3⟩
theorem ArMapZ.look {Z : Nat → Prop} {w : World} {mb c : Nat} {M : Nat → Option Hg.Node} (h : ArMapZ Z w mb c M) {id : Nat} (hid : id < idTop) :
 (M id = none → (Instr.lookup 56 (.map (some mb)) (.int .u64 (id : Int)) true).run Tryz.prog w = .ok (.tuple #[ndV Hg.Node.zero none 0, .bool false]) w) ∧
 (∀ nd, M id = some nd → ∃ ka kc, (Instr.lookup 56 (.map (some mb)) (.int .u64 (id : Int)) true).run Tryz.prog w = .ok (.tuple #[ndV nd ka kc, .bool true]) w ∧
  Sl w w.heap.size (.slice ka nd.kids.length kc) nd.kids.length (nd.kids.map idV)) := by
 have hz : (zeroValue 70).run Tryz.prog w = .ok (ndV Hg.Node.zero none 0) w := by kernel_rfl
 obtain ⟨⟨D, ho, hc, hk⟩, hbd⟩ := h
 obtain ⟨v, ps, hrun, hv⟩ := ho.look_ok keyedId Tryz.underlying56 hz (zd := .held (ndV Hg.Node.zero none 0)) (zp := []) rfl (keyOf_id hid)
 have hx := hk id hid
 simp only [rawR, Option.some.injEq, Prod.mk.injEq] at hv
 refine ⟨fun hM => ?_, fun nd hM => ?_⟩
 ·
  rw [hM] at hx
  have hx' : Maps.has D (idL id) = false := hx
  rw [Maps.atKey_of_not_has hx'] at hv
  have e : v = ndV Hg.Node.zero none 0 := by simpa using hv.1
  rw [hrun, hx', e]
 ·
  rw [hM] at hx
  obtain ⟨ka, kc, h1, h2, h3⟩ := hx
  rw [h1] at hv
  have e : v = ndV nd ka kc := by simpa using hv.1
  refine ⟨ka, kc, ?_, h2⟩
  rw [hrun, Maps.has_true_of_atKey h1, e]
structure ArAtZ (Z : Nat → Prop) (w : World) (ab mb c : Nat) (M : Nat → Option Hg.Node) : Prop where
 cell : w.heap[ab]? = some (.cells #[.map (some mb)] 77 (0, 0))
 map : ArMapZ Z w mb c M
abbrev ArAt := ArAtZ (fun _ => True)
theorem ArAtZ.lt {Z : Nat → Prop} {w : World} {ab mb c : Nat} {M : Nat → Option Hg.Node} (h : ArAtZ Z w ab mb c M) : ab < w.heap.size := (Array.getElem?_eq_some_iff.1 h.cell).1
theorem ArAtZ.below {Z : Nat → Prop} {w w' : World} {ab mb c B : Nat} {M : Nat → Option Hg.Node} (h : ArAtZ Z w ab mb c M) (hb : Below B w w') (hB : w.heap.size ≤ B) : ArAtZ Z w' ab mb c M :=
 ⟨(hb.block ab (by have := h.lt; omega)).trans h.cell, h.map.below hb hB⟩
theorem ArMapZ.imp {Z Z' : Nat → Prop} {w : World} {mb c : Nat} {M : Nat → Option Hg.Node} (h : ArMapZ Z w mb c M) (hz : ∀ q, Z q → Z' q) : ArMapZ Z' w mb c M := by
 obtain ⟨⟨D, ho, hc, hk⟩, hbd⟩ := h
 refine ⟨⟨D, ho, hc, fun id hid => ?_⟩, hbd⟩
 have hx := hk id hid
 cases hM : M id with
 | none => rw [hM] at hx; exact hx
 | some nd =>
   rw [hM] at hx
   obtain ⟨ka, kc, h1, h2, h3⟩ := hx
   exact ⟨ka, kc, h1, h2, fun q hq => hz q (h3 q hq)⟩
theorem ArAtZ.imp {Z Z' : Nat → Prop} {w : World} {ab mb c : Nat} {M : Nat → Option Hg.Node} (h : ArAtZ Z w ab mb c M) (hz : ∀ q, Z q → Z' q) : ArAtZ Z' w ab mb c M := ⟨h.cell, h.map.imp hz⟩
theorem ArAtZ.weak {Z : Nat → Prop} {w : World} {ab mb c : Nat} {M : Nat → Option Hg.Node} (h : ArAtZ Z w ab mb c M) : ArAt w ab mb c M := h.imp fun _ _ => trivial
theorem ArAtZ.read {Z : Nat → Prop} {w : World} {ab mb c : Nat} {M : Nat → Option Hg.Node} (h : ArAtZ Z w ab mb c M) : w.cell? ⟨ab, 0, none⟩ = some (.map (some mb)) ∧ w.frozen? ⟨ab, 0, none⟩ = false := by
 refine ⟨cell_of_row w ab 0 _ _ (0, 0) h.cell, by simp [World.frozen?, h.cell]⟩
theorem ArMapZ.look1 {Z : Nat → Prop} {w : World} {mb c : Nat} {M : Nat → Option Hg.Node} (h : ArMapZ Z w mb c M) {id : Nat} (hid : id < idTop) :
 ∃ ka kc, (Instr.lookup 56 (.map (some mb)) (.int .u64 (id : Int)) true).run Tryz.prog w = .ok (.tuple #[ndV ((M id).getD Hg.Node.zero) ka kc, .bool (M id).isSome]) w ∧
   Sl w w.heap.size (.slice ka ((M id).getD Hg.Node.zero).kids.length kc) ((M id).getD Hg.Node.zero).kids.length (((M id).getD Hg.Node.zero).kids.map idV) := by
 obtain ⟨h1, h2⟩ := h.look hid
 cases hM : M id with
 | none => exact ⟨none, 0, h1 hM, Sl.nil _ _⟩
 | some nd => exact h2 nd hM
theorem ArMapZ.len {Z : Nat → Prop} {w : World} {mb c : Nat} {M : Nat → Option Hg.Node} (h : ArMapZ Z w mb c M) (id : Nat) : ((M id).getD Hg.Node.zero).kids.length ≤ 1000000 := by
 cases hM : M id with
 | none => simp [Hg.Node.zero]
 | some nd => exact h.bd id nd hM
theorem set6_ne {w1 : World} {B g : Nat} {v : Value} {n : Nat} {xs : List Value} (h : Sl w1 B v n xs) (hne : v.ownBlock ≠ some g) (u0 u1 u2 u3 u4 u5 : Value) :
 Sl ((((((w1.setCell ⟨g, 0, none⟩ u0).setCell ⟨g, 1, none⟩ u1).setCell ⟨g, 2, none⟩ u2).setCell ⟨g, 3, none⟩ u3).setCell ⟨g, 4, none⟩ u4).setCell ⟨g, 5, none⟩ u5) B v n xs :=
 sl_set_ne (p := ⟨g, 5, none⟩) (sl_set_ne (p := ⟨g, 4, none⟩) (sl_set_ne (p := ⟨g, 3, none⟩) (sl_set_ne (p := ⟨g, 2, none⟩) (sl_set_ne (p := ⟨g, 1, none⟩) (sl_set_ne (p := ⟨g, 0, none⟩) h hne _) hne _) hne _) hne _) hne _) hne _
def GetRes (w : World) (o : Option Hg.Node) (e : Ending) (w' : World) : Prop :=
 ∃ ka kc, e = .returned (.tuple #[ndV (o.getD Hg.Node.zero) ka kc, .bool o.isSome]) ∧ Sl w' w'.heap.size (.slice ka (o.getD Hg.Node.zero).kids.length kc) (o.getD Hg.Node.zero).kids.length ((o.getD Hg.Node.zero).kids.map idV) ∧ Below w.heap.size w w'
def GetRes1 (w : World) (nd : Hg.Node) (s : Bool) (e : Ending) (w' : World) : Prop :=
 ∃ ka kc, e = .returned (.tuple #[ndV nd ka kc, .bool s]) ∧ Sl w' w'.heap.size (.slice ka nd.kids.length kc) nd.kids.length (nd.kids.map idV) ∧ Below w.heap.size w w'
set_option maxHeartbeats 4000000 in
set_option maxRecDepth 100000 in
theorem get_any (ab mb c : Nat) (M : Nat → Option Hg.Node) (id : Nat) (w : World) (hA : ArAt w ab mb c M) (hid : id < idTop) :
 Calls Tryz.prog 33 #[.pointer (some ⟨ab, 0, none⟩), .int .u64 (id : Int)] w (GetRes w (M id)) := by
 obtain ⟨c0, f0⟩ := hA.read
 have hlt := hA.lt
 have hb0 : ∀ z, Below w.heap.size w (w.alloc (.cells z 70)) := fun z => (Below.refl _ _).alloc (Nat.le_refl _) _
 have hlen := hA.map.len id
 obtain ⟨ka, kc, hlk, hks⟩ := (hA.below (hb0 #[.int .u8 0, .string ⟨#[]⟩, .int .i64 0, .int .u8 0, .int .u64 0, .slice none 0 0]) (Nat.le_refl _)).map.look1 hid
 refine Calls.mono (R := GetRes1 w ((M id).getD Hg.Node.zero) (M id).isSome) ?_ (fun e w' h => h)
 generalize (M id).getD Hg.Node.zero = nd at hlk hks hlen ⊢
 generalize (M id).isSome = s at hlk ⊢
 have HS := Lib.hid hks
 clear hA hid hb0 hks
 go_enter Tryz.func33, Tryz.ntmps33
 go_wp2_with fail
 refine (whole_any _ nd ka kc _ (by simp) (HS.out.alloc (Nat.le_refl _) _) hlen).mono ?_
 rintro e w1 ⟨ka1, kc1, rfl, hs1, hb1, hq1⟩
 obtain ⟨hh1, hh2, hsz, hbb⟩ := two_blocks hb1
 have HS1 := Lib.hid hs1
 have HQ1 := Lib.hid (show (Value.slice ka1 nd.kids.length kc1).ownBlock ≠ some w.heap.size from fun e => by have := hq1 _ e; simp at this; omega)
 have c2 := fun i => cell_of_row w1 w.heap.size i _ _ (0, 0) hh1
 have z0 := c2 0; have z1 := c2 1; have z2 := c2 2; have z3 := c2 3; have z4 := c2 4; have z5 := c2 5
 simp at z0 z1 z2 z3 z4 z5
 have f2 : ∀ i, w1.frozen? ⟨w.heap.size, i, none⟩ = false := fun i => by simp [World.frozen?, hh1]
 clear hs1 hb1 hh1 hh2 c2 hq1 hlk
 go_wp2
 exact bodyPost_ret (v := .tuple #[ndV nd ka1 kc1, .bool s]) (by simp [results, Tryz.results33, go_sem, z0, z1, z2, z3, z4, z5, f2]) rfl
  ⟨ka1, kc1, rfl, (set6_ne HS1.out HQ1.out _ _ _ _ _ _).more (by simp), set6_below hbb (Nat.le_refl _) _ _ _ _ _ _⟩
end Go.Proofs.YtoelmnamlnbdhaaGreatDoor
