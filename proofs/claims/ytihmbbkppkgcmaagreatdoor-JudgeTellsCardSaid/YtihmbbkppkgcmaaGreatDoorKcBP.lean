/-
  Part of a proof: contracts of functions that the claim reaches, and plain lemmas.
-/
import Derived.Test.YtihmbbkppkgcmaaGreatDoorKcBO
import Derived.Deep.QuietTactic
import Derived.BigQuiet
set_option linter.all false
namespace Go.Proofs.YtihmbbkppkgcmaaGreatDoor
open Go.RowKit
set_option maxHeartbeats 800000 in
theorem equal_one (p q : Value) (x : Nat) (w : World) (hp : Sl w w.heap.size p 1 [idV x]) (hq : Sl w w.heap.size q 1 [idV x]) :
 Calls Tryz.prog 16 #[p, q] w fun e w' => e = .returned (.bool true) ∧ Below w.heap.size w w' := by
 obtain ⟨a1, c1, rfl⟩ := hp.form
 obtain ⟨a2, c2, rfl⟩ := hq.form
 obtain ⟨b1, o1, rfl, hb1, e1⟩ := Sl.idAt (l := [x]) (k := 0) hp (by simp)
 obtain ⟨b2, o2, rfl, hb2, e2⟩ := Sl.idAt (l := [x]) (k := 0) hq (by simp)
 simp only [List.getElem_cons_zero, Nat.add_zero] at e1 e2
 have HE1 := Lib.hid e1
 have HE2 := Lib.hid e2
 clear e1 e2 hp hq
 go_enter Tryz.func16, Tryz.ntmps16
 go_wp2
 go_loopw [5, 13] (fun _ i wr => ∃ k : Nat, k ≤ 1 ∧ i = .int .i64 (k : Int) ∧ Below w.heap.size w wr) (fun _ i _ => 1 - (intOf i).toNat)
 case atStart => exact ⟨0, by omega, rfl, Below.refl _ _⟩
 case round =>
  obtain ⟨k, hk, rfl, hb⟩ := hrel
  have HB := Lib.hid hb
  by_cases h0 : k = 0
  ·
   subst h0
   have e1 := (hb.cell hb1).trans HE1.out
   have e2 := (hb.cell hb2).trans HE2.out
   clear hb
   go_upto_region 6 with fail
   go_quiet (fail)
   go_wp2
   go_roundw
   case rel => exact ⟨1, by omega, by go_num, below_drewN HB.out nq⟩
   case measure => simp [intOf]
  ·
   obtain rfl : k = 1 := by omega
   clear hb
   go_wp2
   go_ret
   exact ⟨rfl, HB.out⟩
abbrev u8L (n : Nat) : Lit := .int .u8 (n : Int)
theorem u8L_wf {n : Nat} (h : n ≤ 255) : (u8L n).wf = true := by
 simp [Lit.wf, IntKind.min, IntKind.max, IntKind.bits, IntKind.signed]; omega
theorem keyedU8 : Maps.Keyed Tryz.prog 5 := Maps.int_keyed Tryz.underlying5
theorem keyOf_u8 {n : Nat} (h : n ≤ 255) : keyOf Tryz.prog 5 (.int .u8 (n : Int)) = some (u8L n) := Maps.keyOf_int_mk Tryz.underlying5 (u8L_wf h)
theorem u8L_ne {m n : Nat} (h : m ≠ n) : u8L m ≠ u8L n := by
 intro e
 injection e with _ e
 omega
def KV (w : World) (b n : Nat) (f : Nat → Nat) : Prop := ∃ D, w.ownsMap Tryz.prog 5 rawR b n D ∧ Maps.IsMap D ∧ ∀ k, k ≤ 255 → D.atKey (u8L k) (.held (.int .u8 0)) = .held (.int .u8 (f k : Int))
theorem KV.made (w : World) : KV (w.alloc (.map #[] 0)) w.heap.size 0 (fun _ => 0) := ⟨.map [], World.ownsMap_made w _ _ _, ⟨[], rfl⟩, fun _ _ => rfl⟩
theorem KV.lt {w : World} {b n : Nat} {f : Nat → Nat} (h : KV w b n f) : b < w.heap.size := by
 obtain ⟨D, ho, _⟩ := h
 exact ho.lt
theorem KV.look {w : World} {b n : Nat} {f : Nat → Nat} (h : KV w b n f) {k : Nat} (hk : k ≤ 255) : (Instr.lookup 54 (.map (some b)) (.int .u8 (k : Int)) false).run Tryz.prog w = .ok (.int .u8 (f k : Int)) w := by
 obtain ⟨D, ho, _, hs⟩ := h
 have hz : (zeroValue 5).run Tryz.prog w = .ok (.int .u8 0) w := by kernel_rfl
 obtain ⟨v, ps, hrun, hv⟩ := ho.lookup keyedU8 Tryz.underlying54 hz (zd := .held (.int .u8 0)) (zp := []) rfl (keyOf_u8 hk)
 rw [hs k hk] at hv
 simp only [rawR, Option.some.injEq, Prod.mk.injEq] at hv
 have e : v = .int .u8 (f k : Int) := by simpa using hv.1
 rw [hrun, e]
theorem KV.put {w : World} {b n : Nat} {f : Nat → Nat} (h : KV w b n f) {k : Nat} (x : Nat) (hk : k ≤ 255) (hn : n ≤ 1000) :
 ∃ w', (Instr.mapUpdate 54 (.map (some b)) (.int .u8 (k : Int)) (.int .u8 (x : Int))).run Tryz.prog w = .ok () w' ∧ KV w' b (n + 1) (fun j => if j = k then x else f j) ∧ w.grownBy w' (some b) := by
 obtain ⟨D, ho, hi, hs⟩ := h
 obtain ⟨w', hrun, ho', hg⟩ := ho.update keyedU8 Tryz.underlying54 (by unfold maxLen; omega) (keyOf_u8 hk) (val := .int .u8 (x : Int)) (d := .held (.int .u8 (x : Int))) (ps := []) rfl
 refine ⟨w', hrun, ⟨_, ho', Maps.IsMap.put hi _ _, fun j hj => ?_⟩, hg⟩
 dsimp only
 by_cases e : j = k
 ·
  subst e
  rw [if_pos rfl]
  exact Maps.atKey_put_same hi (by trivial) _ _
 ·
  rw [if_neg e, Maps.atKey_put_other (u8L_ne e)]
  exact hs j hj
theorem wants_table {w : World} {b n : Nat} (h : KV w b n (fun j => if j = 14 then 18 else if j = 4 then 6 else if j = 3 then 4 else if j = 2 then 3 else if j = 1 then 2 else 0)) {k : Nat} (hk : k ≤ 255) :
 (Instr.lookup 54 (.map (some b)) (.int .u8 (k : Int)) false).run Tryz.prog w = .ok (.int .u8 (wantsN k : Int)) w := by
 have := h.look hk
 have e : (if k = 14 then 18 else if k = 4 then 6 else if k = 3 then 4 else if k = 2 then 3 else if k = 1 then 2 else 0) = wantsN k := by
  unfold wantsN
  by_cases h1 : k = 1
  ·
   subst h1; rfl
  by_cases h2 : k = 2
  ·
   subst h2; rfl
  by_cases h3 : k = 3
  ·
   subst h3; rfl
  by_cases h4 : k = 4
  ·
   subst h4; rfl
  by_cases h5 : k = 14
  ·
   subst h5; rfl
  simp [h1, h2, h3, h4, h5]
 rw [← e]
 exact this
section
variable {P : Program} {ops : Array Oper} {Q : Exit → Act → World → Prop} {md : Region.Mode} {S : World → Prop} {n : Nat}
theorem wpAnyT_three {i j l : Nat} {oi oj ol : Oper} {fuel : Nat} {listed : Array Bool} {a : Act} {w : World} (hi : ops[i]? = some oi) (hj : ops[j]? = some oj) (hl : ops[l]? = some ol) (hr : Region.ready md ops listed = [i, j, l])
 (h1 : ∀ K' : Act → World → Prop, Shut (∀ a w, S w → (S w → wpAnyT P md ops Q S n fuel (listed.setIfInBounds i true) a w) → K' a w) → if Region.wanted oi (yielded ops a.tmps) = true then Oper.wp P oi a w K' Q else K' (a.put oi.dst undef) w)
 (h2 : ∀ K' : Act → World → Prop, Shut (∀ a w, S w → (S w → wpAnyT P md ops Q S n fuel (listed.setIfInBounds j true) a w) → K' a w) → if Region.wanted oj (yielded ops a.tmps) = true then Oper.wp P oj a w K' Q else K' (a.put oj.dst undef) w)
 (h3 : ∀ K' : Act → World → Prop, Shut (∀ a w, S w → (S w → wpAnyT P md ops Q S n fuel (listed.setIfInBounds l true) a w) → K' a w) → if Region.wanted ol (yielded ops a.tmps) = true then Oper.wp P ol a w K' Q else K' (a.put ol.dst undef) w) :
 wpAnyT P md ops Q S n (fuel + 1) listed a w := by
 refine ⟨fun h0 => (by rw [h0] at hr; cases hr), fun k hk => ?_⟩
 rw [hr] at hk
 rcases List.mem_cons.1 hk with rfl | hk
 ·
  exact wpOp_step hi (fun K' hK => h1 K' (fun a w hS hW => hK a w ⟨fun _ => hS, hW hS⟩))
 rcases List.mem_cons.1 hk with rfl | hk
 ·
  exact wpOp_step hj (fun K' hK => h2 K' (fun a w hS hW => hK a w ⟨fun _ => hS, hW hS⟩))
 ·
  have : k = l := by simpa using hk
  subst this
  exact wpOp_step hl (fun K' hK => h3 K' (fun a w hS hW => hK a w ⟨fun _ => hS, hW hS⟩))
end
theorem blk {W W' : World} {b : Nat} {o : Obj} (h : W.heap[b]? = some o) (hb : Below W.heap.size W W') : W'.heap[b]? = some o := (hb.block b (Array.getElem?_eq_some_iff.1 h).1).trans h
theorem blk_lt {W : World} {b : Nat} {o : Obj} (h : W.heap[b]? = some o) : b < W.heap.size := (Array.getElem?_eq_some_iff.1 h).1
theorem four {w : World} {b : Nat} {a0 a1 a2 a3 : Value} {t : TypeId} (h : w.heap[b]? = some (.cells #[a0, a1, a2, a3] t (0, 0))) :
 (w.cell? ⟨b, 0, none⟩ = some a0 ∧ w.cell? ⟨b, 1, none⟩ = some a1 ∧ w.cell? ⟨b, 2, none⟩ = some a2 ∧ w.cell? ⟨b, 3, none⟩ = some a3) ∧ ∀ i, w.frozen? ⟨b, i, none⟩ = false := by
 have z := fun i => cell_of_row w b i _ _ (0, 0) h
 have z0 := z 0; have z1 := z 1; have z2 := z 2; have z3 := z 3
 simp at z0 z1 z2 z3
 exact ⟨⟨z0, z1, z2, z3⟩, fun i => by simp [World.frozen?, h]⟩
theorem put4 {w : World} {b : Nat} {a0 a1 a2 a3 : Value} {t : TypeId} (h : w.heap[b]? = some (.cells #[a0, a1, a2, a3] t (0, 0))) (v0 v1 v2 v3 : Value) :
 ((((w.setCell ⟨b, 0, none⟩ v0).setCell ⟨b, 1, none⟩ v1).setCell ⟨b, 2, none⟩ v2).setCell ⟨b, 3, none⟩ v3).heap[b]? = some (.cells #[v0, v1, v2, v3] t (0, 0)) := by
 have h1 := heap_setCell_same (i := 0) h v0
 have h2 := heap_setCell_same (i := 1) h1 v1
 have h3 := heap_setCell_same (i := 2) h2 v2
 have h4 := heap_setCell_same (i := 3) h3 v3
 simpa using h4
theorem put4_other {w : World} {b c : Nat} (hne : ¬ c = b) (v0 v1 v2 v3 : Value) :
 ((((w.setCell ⟨b, 0, none⟩ v0).setCell ⟨b, 1, none⟩ v1).setCell ⟨b, 2, none⟩ v2).setCell ⟨b, 3, none⟩ v3).heap[c]? = w.heap[c]? :=
 (Below.heap_setCell _ _ _ c hne).trans ((Below.heap_setCell _ _ _ c hne).trans ((Below.heap_setCell _ _ _ c hne).trans (Below.heap_setCell _ _ _ c hne)))
theorem put4_below {w w' : World} {B b : Nat} (h : Below B w w') (hb : B ≤ b) (v0 v1 v2 v3 : Value) :
 Below B w ((((w'.setCell ⟨b, 0, none⟩ v0).setCell ⟨b, 1, none⟩ v1).setCell ⟨b, 2, none⟩ v2).setCell ⟨b, 3, none⟩ v3) :=
 (((h.setCell (p := ⟨b, 0, none⟩) hb _).setCell (p := ⟨b, 1, none⟩) hb _).setCell (p := ⟨b, 2, none⟩) hb _).setCell (p := ⟨b, 3, none⟩) hb _
def PO (x : List Hg.Row) (o : Opn) : Prop := o.b = 0 ∧ OpOk o.k o.a o.n ∧ o.n.length ≤ 20 ∧ (o.a = 1 ∨ ∃ r ∈ x, r.id = o.a)
theorem PO.small {x : List Hg.Row} {o : Opn} (h : PO x o) (hx : RowsOk x) : o.Small := by
 obtain ⟨_, h1, h2, h3⟩ := h
 refine ⟨by have := h1.2; omega, ?_, by omega⟩
 rcases h3 with e | ⟨r', hr', e⟩
 ·
  omega
 ·
  obtain ⟨j, hj, e2⟩ := List.mem_iff_getElem.1 hr'
  have := hx.tr.rid j r' (by rw [List.getElem?_eq_getElem hj, e2])
  have := hx.facts.2.1
  omega
theorem plan_po (x : List Hg.Row) (hxo : RowsOk x) (w2 : World) (v : Value) (hx2 : RowsAt w2 w2.heap.size v x) (k a : Nat) (nm : List UInt8) (raw : Bool) (hk : k ≤ 255) (ha : a ≤ 65535) (hnm : nm.length ≤ 1000000000000000) (W : World) (hW : Below w2.heap.size w2 W) :
 Calls Tryz.prog 11 #[v, .agg #[.int .u8 (k : Int), .int .u16 (a : Int), strV nm, .bool raw]] W fun e w' => ∃ o : Opn, e = .returned o.v ∧ PO x o ∧ Below W.heap.size W w' := by
 refine (plan_any x v k a nm raw W hk ha hnm ((hx2.below hW (Nat.le_refl _)).more hW.size) hxo.facts.2.1 (fun r hr => ?_)).mono ?_
 ·
  obtain ⟨j, hj, e⟩ := List.mem_iff_getElem.1 hr
  have := hxo.tr.rid j r (by rw [List.getElem?_eq_getElem hj, e])
  omega
 ·
  rintro e w' ⟨κ, α, n, h1, h2, h3, h4, h5⟩
  exact ⟨⟨κ, α, 0, n⟩, h1, ⟨rfl, h2, h3, h4⟩, h5⟩
@[reducible] def opO (o : Opn) : Obj := .cells #[.int .u8 (o.k : Int), .int .u64 (o.a : Int), .int .u64 (o.b : Int), strV o.n] 43 (0, 0)
@[reducible] def PlS (w2 : World) (pb k a : Nat) (nm : List UInt8) (raw : Bool) (k' a' : Nat) (nm' : List UInt8) (raw' : Bool) : World → Prop := fun w' =>
 Below w2.heap.size w2 w' ∧ w'.cell? ⟨pb, 0, none⟩ = some (.int .u8 (k : Int)) ∧ w'.cell? ⟨pb, 1, none⟩ = some (.int .u16 (a : Int)) ∧ w'.cell? ⟨pb, 2, none⟩ = some (strV nm) ∧ w'.cell? ⟨pb, 3, none⟩ = some (.bool raw) ∧
  w'.cell? ⟨pb + 1, 0, none⟩ = some (.int .u8 (k' : Int)) ∧ w'.cell? ⟨pb + 1, 1, none⟩ = some (.int .u16 (a' : Int)) ∧ w'.cell? ⟨pb + 1, 2, none⟩ = some (strV nm') ∧ w'.cell? ⟨pb + 1, 3, none⟩ = some (.bool raw')
def PlEnd (w2 : World) (x : List Hg.Row) (b1 b2 : Nat) (o u : Opn) (wx : World) : Prop :=
 PO x o ∧ PO x u ∧ ¬ b1 = b2 ∧ w2.heap.size ≤ b1 ∧ w2.heap.size ≤ b2 ∧ Below w2.heap.size w2 wx ∧ wx.heap[b1]? = some (opO o) ∧ wx.heap[b2]? = some (opO u)
theorem pl_end {w2 wf : World} {x : List Hg.Row} {b1 b2 : Nat} {o u : Opn} {z0 z1 z2 z3 y0 y1 y2 y3 : Value} (po : PO x o) (pu : PO x u) (hne : ¬ b1 = b2) (h1 : w2.heap.size ≤ b1) (h2 : w2.heap.size ≤ b2) (hb : Below w2.heap.size w2 wf)
 (g1 : wf.heap[b1]? = some (.cells #[z0, z1, z2, z3] 43 (0, 0))) (g2 : wf.heap[b2]? = some (.cells #[y0, y1, y2, y3] 43 (0, 0))) :
 PlEnd w2 x b1 b2 o u ((((((((wf.setCell ⟨b1, 0, none⟩ (.int .u8 (o.k : Int))).setCell ⟨b1, 1, none⟩ (.int .u64 (o.a : Int))).setCell ⟨b1, 2, none⟩ (.int .u64 (o.b : Int))).setCell ⟨b1, 3, none⟩ (strV o.n)).setCell ⟨b2, 0, none⟩ (.int .u8 (u.k : Int))).setCell ⟨b2, 1, none⟩ (.int .u64 (u.a : Int))).setCell ⟨b2, 2, none⟩ (.int .u64 (u.b : Int))).setCell ⟨b2, 3, none⟩ (strV u.n)) :=
 ⟨po, pu, hne, h1, h2, put4_below (put4_below hb h1 _ _ _ _) h2 _ _ _ _, (put4_other hne _ _ _ _).trans (put4 g1 _ _ _ _), put4 ((put4_other (fun e => hne e.symm) _ _ _ _).trans g2) _ _ _ _⟩
theorem tell_cases {x : List Hg.Row} (hx : RowsOk x) {o : Opn} (h : PO x o ∨ wantsN o.k = 0) : ∃ ws cs kn, OfIs (tabM x) o ws cs kn ∧
 ((kn = true ∧ ws = [o.a] ∧ wantsN o.k ≠ 0 ∧ ((tabM x o.a).getD Hg.Node.zero).kind = wantsN o.k ∧ ∃ r, ScopeIs (tabM x) o.a r ∧ (o.k ≠ 14 → r ≠ 0) ∧ cs = if o.k = 14 then [] else [(r, o.n), (r, ((tabM x o.a).getD Hg.Node.zero).name)]) ∨
   (kn = false ∧ ws = [] ∧ cs = [] ∧ (wantsN o.k = 0 ∨ wantsN o.k ≠ 0 ∧ ((tabM x o.a).getD Hg.Node.zero).kind ≠ wantsN o.k))) := by
 by_cases hw : wantsN o.k = 0
 ·
  exact ⟨[], [], false, of_other hw, .inr ⟨rfl, rfl, rfl, .inl hw⟩⟩
 ·
  rcases h with h | h
  ·
   rcases of_cases hx o h.1 h.2.1 with ⟨nd, r, h1, h2, h3, h4, h5, h6⟩ | ⟨h1, h2⟩
   ·
    exact ⟨_, _, _, h6, .inl ⟨rfl, rfl, hw, by rw [h1]; exact h2, r, h4, h5, by rw [h1]; rfl⟩⟩
   ·
    refine ⟨[], [], false, h2, .inr ⟨rfl, rfl, rfl, .inr ⟨hw, ?_⟩⟩⟩
    cases hM : tabM x o.a with
    | none => exact fun e => hw e.symm
    | some nd => exact h1 nd hM
  ·
   exact absurd h hw
theorem opO_small {x : List Hg.Row} (hx : RowsOk x) {o : Opn} (h : PO x o) {kd : Nat} (hkd : kd < 9) : Opn.Small ⟨5 + kd, o.a, 0, []⟩ ∧ wantsN (5 + kd) = 0 := by
 have h1 := h.small hx
 refine ⟨⟨by show 5 + kd ≤ 255; omega, h1.a, by simp⟩, ?_⟩
 unfold wantsN
 rw [if_neg (by omega), if_neg (by omega), if_neg (by omega), if_neg (by omega), if_neg (by omega)]
theorem meetsB_comm (ws ws' : List Nat) (cs cs' : List Cl) (kn kn' : Bool) : meetsB ws' ws cs' cs kn' kn = meetsB ws ws' cs cs' kn kn' := by
 have h1 : (∃ x ∈ ws', x ∈ ws) ↔ ∃ x ∈ ws, x ∈ ws' := ⟨fun ⟨x, a, b⟩ => ⟨x, b, a⟩, fun ⟨x, a, b⟩ => ⟨x, b, a⟩⟩
 have h2 : (∃ x ∈ cs', x ∈ cs) ↔ ∃ x ∈ cs, x ∈ cs' := ⟨fun ⟨x, a, b⟩ => ⟨x, b, a⟩, fun ⟨x, a, b⟩ => ⟨x, b, a⟩⟩
 unfold meetsB
 rw [decide_eq_decide.2 h1, decide_eq_decide.2 h2]
 cases kn <;> cases kn' <;> rfl
end Go.Proofs.YtihmbbkppkgcmaaGreatDoor
