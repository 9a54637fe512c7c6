/-
  Part of a proof of RunLoops: contracts of functions that the claim reaches, and plain lemmas.
-/
import Derived.Test.YtoelmnamlnbdhaaGreatDoorKfBT
import Derived.Test.YtoelmnamlnbdhaaGreatDoorKfAA
import Derived.Test.YtoelmnamlnbdhaaGreatDoorKfBM
set_option linter.all false
namespace Go.Proofs.YtoelmnamlnbdhaaGreatDoor
open Go.RowKit
open Hg (GT gl wk isK ndAt kidsK KB NoClash seenK wantsK okT mainK RB)
structure RightOk (M : Nat → Option Hg.Node) (par : Nat → Nat × Int) (abv : Nat → Nat) (F F2 : Nat) (xs : List (Nat × Hg.Node)) : Prop where
 prs : ParOk M par
 shaped : ShapedOk M par F xs
 clash : NoClash M
 f2 : F2 ≤ 1000000
 hidden : ∀ x ∈ xs, x.2.kind = 15 ∨ x.2.kind = 7 → ∃ R, seenK M par F2 x.1 [] [] = some R ∧ 0 ≤ idxI R x.2.ref ∧ R.length ≤ 1000000
 abo : AbvOk M abv
 rb : RB M
 id : ∀ x ∈ xs, x.1 ≤ 1000000
 h18 : ∀ x ∈ xs, x.2.kind = 18 → 0 < x.2.kids.length
 idx : ∀ x ∈ xs, x.2.kind ≠ 19 → (wantsK M abv x.1 x.2).length ≤ x.2.kids.length
def rightK (M : Nat → Option Hg.Node) (abv : Nat → Nat) (xs : List (Nat × Hg.Node)) : Nat := if xs.all (okT M abv) then (if mainK M = 0 then 3 else 0) else 11
set_option maxHeartbeats 4000000 in
set_option maxRecDepth 100000 in
theorem right_any (ab : Nat) (M : Nat → Option Hg.Node) (par : Nat → Nat × Int) (abv : Nat → Nat) (F F2 : Nat) (xs : List (Nat × Hg.Node)) (w : World) (hA : ArOk w ab M) (hT : TabOk w) (hR : RightOk M par abv F F2 xs) :
 Calls Tryz.prog 14 #[.pointer (some ⟨ab, 0, none⟩)] w fun e w' => e = .returned (.int .i64 (rightK M abv xs : Int)) ∧ Below w.heap.size w w' := by
 have T1 := Lib.hid (shaped_all_any ab M par hR.prs F xs w hA hT hR.shaped)
 have T2 := Lib.hid (fun W (h : Below w.heap.size w W) => clash_any ab M W (hA.below h) hR.clash)
 have T3 := Lib.hid (fun W (h : Below w.heap.size w W) => hidden_any ab M par hR.prs F F2 xs W (hA.below h) hR.shaped.walk hR.shaped.f hR.f2 hR.shaped.id hR.hidden)
 have T4 := Lib.hid (fun W (h : Below w.heap.size w W) => typed_any ab M abv hR.abo hR.rb F xs W (hA.below h) hR.shaped.walk hR.shaped.f hR.id hR.h18 hR.idx)
 have T5 := Lib.hid (fun W (h : Below w.heap.size w W) => main_any ab M W (hA.below h))
 unfold rightK
 generalize xs.all (okT M abv) = ok at T4 ⊢
 generalize mainK M = mk at T5 ⊢
 clear hA hT hR
 go_enter Tryz.func14, Tryz.ntmps14
 go_wp2_with fail
 refine T1.out.mono ?_
 rintro e w1 ⟨rfl, hb1⟩
 have HB1 := Lib.hid hb1
 clear T1 hb1
 go_wp2_with fail
 refine (T2.out _ HB1.out).mono ?_
 rintro e w2 ⟨rfl, hb2⟩
 have HB2 := Lib.hid (HB1.out.trans (hb2.mono HB1.out.size))
 clear T2 hb2
 go_wp2_with fail
 refine (T3.out _ HB2.out).mono ?_
 rintro e w3 ⟨rfl, hb3⟩
 have HB3 := Lib.hid (HB2.out.trans (hb3.mono HB2.out.size))
 clear T3 hb3
 go_wp2_with fail
 refine (T4.out _ HB3.out).mono ?_
 rintro e w4 ⟨rfl, hb4⟩
 have HB4 := Lib.hid (HB3.out.trans (hb4.mono HB3.out.size))
 clear T4 hb4
 cases ok with
 | false =>
   go_wp2
   go_ret
   exact ⟨rfl, HB4.out⟩
 | true =>
   go_wp2_with fail
   refine (T5.out _ HB4.out).mono ?_
   rintro e w5 ⟨rfl, hb5⟩
   have HB5 := Lib.hid (HB4.out.trans (hb5.mono HB4.out.size))
   clear T5 hb5
   by_cases h0 : mk = 0
   ·
    subst h0
    go_wp2
    go_ret
    exact ⟨rfl, HB5.out⟩
   ·
    have q0 : ((mk : Int) == 0) = false := by simp; omega
    have HN := Lib.hid h0
    clear h0
    go_wp2
    go_ret
    exact ⟨by first | rfl | (rw [if_pos rfl, if_neg HN.out]; rfl), HB5.out⟩
end Go.Proofs.YtoelmnamlnbdhaaGreatDoor
namespace Hg
open Go.Proofs.YtoelmnamlnbdhaaGreatDoor (idxI)
def bestP (id : Nat) : List Row → Nat × Int
 | [] => (0, 0)
 | r :: rows => if 0 ≤ idxI r.node.kids id ∧ ((bestP id rows).1 = 0 ∨ r.id < (bestP id rows).1) then (r.id, idxI r.node.kids id) else bestP id rows
theorem bestP_spec (id : Nat) : ∀ (rows : List Row), (∀ r ∈ rows, r.id ≠ 0) →
 ((bestP id rows).1 = 0 ∧ (bestP id rows).2 = 0 ∧ ∀ r ∈ rows, idxI r.node.kids id < 0) ∨
 ((bestP id rows).1 ≠ 0 ∧ (∃ r ∈ rows, r.id = (bestP id rows).1 ∧ idxI r.node.kids id = (bestP id rows).2 ∧ 0 ≤ (bestP id rows).2) ∧ ∀ r ∈ rows, 0 ≤ idxI r.node.kids id → (bestP id rows).1 ≤ r.id)
 | [], _ => .inl ⟨rfl, rfl, fun r h => by simp at h⟩
 | r :: rows, h0 => by
   have ih := bestP_spec id rows (fun x hx => h0 x (List.mem_cons_of_mem _ hx))
   rw [bestP]
   generalize bestP id rows = b at ih
   obtain ⟨p, k⟩ := b
   dsimp only at ih ⊢
   have hr0 := h0 r (by simp)
   by_cases hc : 0 ≤ idxI r.node.kids id ∧ (p = 0 ∨ r.id < p)
   ·
    rw [if_pos hc]
    right
    refine ⟨hr0, ⟨r, by simp, rfl, rfl, hc.1⟩, fun x hx h => ?_⟩
    rcases List.mem_cons.1 hx with e | hx
    ·
     subst e; exact Nat.le_refl _
    ·
     rcases ih with ⟨h1, h2, h3⟩ | ⟨h1, h2, h3⟩
     ·
      have := h3 x hx; omega
     ·
      have := h3 x hx h
      show r.id ≤ x.id
      omega
   ·
    rw [if_neg hc]
    rcases ih with ⟨h1, h2, h3⟩ | ⟨h1, ⟨x, hx, h2⟩, h3⟩
    ·
     left
     refine ⟨h1, h2, fun x hx => ?_⟩
     rcases List.mem_cons.1 hx with e | hx
     ·
      subst e; omega
     ·
      exact h3 x hx
    ·
     right
     refine ⟨h1, ⟨x, List.mem_cons_of_mem _ hx, h2⟩, fun y hy h => ?_⟩
     rcases List.mem_cons.1 hy with e | hy
     ·
      subst e; omega
     ·
      exact h3 y hy h
structure RowsOk (rows : List Row) : Prop where
 nodup : (rows.map Row.id).Nodup
 zero : ∀ r ∈ rows, r.id ≠ 0
 top : ∀ r ∈ rows, r.id < 18446744073709551616
theorem rowM_some {rows : List Row} (h : RowsOk rows) {i : Nat} {n : Node} : rowM rows i = some n ↔ ∃ r ∈ rows, r.id = i ∧ r.node = n := by
 unfold rowM
 constructor
 ·
  intro he
  cases hf : rows.find? (fun r => r.id == i) with
  | none => rw [hf] at he; cases he
  | some r =>
    rw [hf] at he
    injection he with he
    exact ⟨r, List.mem_of_find?_eq_some hf, by simpa using List.find?_some hf, he⟩
 ·
  rintro ⟨r, hr, rfl, rfl⟩
  rw [find_row rows h.nodup r hr]
  rfl
theorem rowM_zero {rows : List Row} (h : RowsOk rows) : rowM rows 0 = none := by
 cases hm : rowM rows 0 with
 | none => rfl
 | some n =>
   obtain ⟨r, hr, h0, _⟩ := (rowM_some h).1 hm
   exact absurd h0 (h.zero r hr)
def parR (rows : List Row) (id : Nat) : Nat × Int := bestP id rows
def abvL (rows : List Row) : Nat → Nat → Nat
 | 0, _ => 0
 | f + 1, id => if id = 0 then 0 else match rowM rows id with
   | none => 0
   | some n => if n.kind = 3 then id else abvL rows f (parR rows id).1
def abvR (rows : List Row) (id : Nat) : Nat := abvL rows (id + 1) id
end Hg
namespace Go.Proofs.YtoelmnamlnbdhaaGreatDoor
open Hg (Row Node rowM RowsOk rowM_some rowM_zero bestP bestP_spec parR abvL abvR)
theorem parR_in {rows : List Row} (h : RowsOk rows) (id : Nat) : ParIn (rowM rows) id (fun i => i < idTop) (parR rows id).1 (parR rows id).2 := by
 unfold parR
 rcases bestP_spec id rows h.zero with ⟨h1, h2, h3⟩ | ⟨h1, ⟨r, hr, h2, h4, h5⟩, h3⟩
 ·
  left
  refine ⟨h1, h2, fun i nd _ hm => ?_⟩
  obtain ⟨r, hr, rfl, rfl⟩ := (rowM_some h).1 hm
  exact h3 r hr
 ·
  right
  refine ⟨h1, ?_, ⟨r.node, (rowM_some h).2 ⟨r, hr, h2, rfl⟩, h4, h5⟩, fun i nd _ hm h0 => ?_⟩
  ·
   have := h.top r hr
   show _ < 18446744073709551616
   omega
  ·
   obtain ⟨x, hx, rfl, rfl⟩ := (rowM_some h).1 hm
   exact h3 x hx h0
theorem parOk_rows {rows : List Row} (h : RowsOk rows) : ParOk (rowM rows) (parR rows) := ⟨rowM_zero h, parR_in h⟩
def DecR (rows : List Row) : Prop := ∀ r ∈ rows, (parR rows r.id).1 < r.id ∨ (parR rows r.id).1 = 0
theorem abv_chain {rows : List Row} (h : RowsOk rows) (hd : DecR rows) : ∀ (f id : Nat), id < f → Chain (rowM rows) 3 id (abvL rows f id) := by
 intro f
 induction f with
 | zero => intro id h; omega
 | succ f ih =>
   intro id hid
   rw [abvL]
   by_cases h0 : id = 0
   ·
    rw [if_pos h0, h0]; exact .zero
   ·
    rw [if_neg h0]
    cases hm : rowM rows id with
    | none => exact .none id hm
    | some n =>
      dsimp only
      by_cases hk : n.kind = 3
      ·
       rw [if_pos hk]; exact .hit id n h0 hm hk
      ·
       rw [if_neg hk]
       refine .step id n _ _ _ h0 hm hk (parR_in h id) (ih _ ?_)
       obtain ⟨r, hr, rfl, _⟩ := (rowM_some h).1 hm
       rcases hd r hr with e | e <;> omega
theorem abvL_le {rows : List Row} (hd : DecR rows) (h : RowsOk rows) : ∀ (f id : Nat), id < f → abvL rows f id = 0 ∨ ∃ r ∈ rows, r.id = abvL rows f id := by
 intro f
 induction f with
 | zero => intro id h; omega
 | succ f ih =>
   intro id hid
   rw [abvL]
   by_cases h0 : id = 0
   ·
    rw [if_pos h0]; exact .inl rfl
   ·
    rw [if_neg h0]
    cases hm : rowM rows id with
    | none => exact .inl rfl
    | some n =>
      dsimp only
      obtain ⟨r, hr, hi, _⟩ := (rowM_some h).1 hm
      by_cases hk : n.kind = 3
      ·
       rw [if_pos hk]; exact .inr ⟨r, hr, hi⟩
      ·
       rw [if_neg hk]
       exact ih _ (by have := hd r hr; rw [hi] at this; omega)
theorem abvOk_rows {rows : List Row} (h : RowsOk rows) (hd : DecR rows) (hk : ∀ r ∈ rows, r.node.kind ≤ 255) : AbvOk (rowM rows) (abvR rows) := by
 refine ⟨rowM_zero h, fun i n hm => ?_, fun i n p k hm hp => ?_, fun id _ => abv_chain h hd _ _ (Nat.lt_succ_self _), fun id => ?_⟩
 ·
  obtain ⟨r, hr, _, rfl⟩ := (rowM_some h).1 hm
  exact hk r hr
 ·
  obtain ⟨e, _⟩ := hp.unique (parR_in h i)
  obtain ⟨r, hr, rfl, _⟩ := (rowM_some h).1 hm
  rw [e]
  exact hd r hr
 ·
  unfold abvR
  rcases abvL_le hd h (id + 1) id (Nat.lt_succ_self _) with e | ⟨r, hr, e⟩
  ·
   rw [e]; decide
  ·
   rw [← e]; exact h.top r hr
end Go.Proofs.YtoelmnamlnbdhaaGreatDoor
namespace Go.Proofs.YtoelmnamlnbdhaaGreatDoor
open Hg (Row rowM RowsOk rowM_some rowM_zero parR abvR gl wk seenK tRun TreeK KidsOk NoClash modsK funcsK nameK namesW wantsK retsK depthK okT mainK RB stP exP kk)
instance (M : Nat → Option Hg.Node) (n : Hg.Node) : Decidable (KidsOk M n) := by unfold KidsOk; infer_instance
instance (M : Nat → Option Hg.Node) (n : Hg.Node) : Decidable (PartsOk M n) := by unfold PartsOk; infer_instance
theorem gl_key_mem {β : Type} : ∀ (R : List (Nat × β)) (i : Nat), (gl R i).isSome = true → ∃ p ∈ R, p.1 = i
 | [], i, h => by cases h
 | (k, v) :: R, i, h => by
   rw [Hg.gl_cons] at h
   by_cases e : k = i
   ·
    exact ⟨(k, v), by simp, e⟩
   ·
    rw [if_neg (by simpa using e)] at h
    obtain ⟨p, hp, e⟩ := gl_key_mem R i h
    exact ⟨p, List.mem_cons_of_mem _ hp, e⟩
def chkSeen (M : Nat → Option Hg.Node) (par : Nat → Nat × Int) (x : Nat × Hg.Node) : Bool := match seenK M par 1000 x.1 [] [] with
 | none => false
 | some R => decide (0 ≤ idxI R x.2.ref) && decide (R.length ≤ 1000000)
def chkNames (M : Nat → Option Hg.Node) (f : Nat) : Bool := match wk M 1000 [f] [] with
 | none => false
 | some xs => decide (namesW xs).Nodup
def chkNode (rows : List Row) (x : Nat × Hg.Node) : Bool :=
 decide (x.1 ≤ 1000000) && decide (1 ≤ x.2.kind ∧ x.2.kind ≤ 20) && decide (KidsOk (rowM rows) x.2) && decide (PartsOk (rowM rows) x.2) && decide (x.2.kind = 1 ↔ x.1 = 1) &&
 (!(x.2.kind == 5) || retsK (rowM rows) (parR rows) x.1 x.2) && (!(x.2.kind == 3) || decide (depthK (rowM rows) 201 x.1 ≤ 90)) &&
 (!(x.2.kind == 15 || x.2.kind == 7) || chkSeen (rowM rows) (parR rows) x) && (!(x.2.kind == 18) || decide (0 < x.2.kids.length)) &&
 (x.2.kind == 19 || decide ((wantsK (rowM rows) (abvR rows) x.1 x.2).length ≤ x.2.kids.length))
def chkTree (rows : List Row) : Bool := match tRun (rowM rows) 1000 [1] [(1, 1)] with
 | none => false
 | some R => (R.all fun p => ((rowM rows) p.1).isSome) && rows.all fun r => (gl R r.id).isSome
def chkRows (rows : List Row) : Bool :=
 decide (rows.map Row.id).Nodup && (rows.all fun r => decide (r.id ≠ 0) && decide (r.id < 18446744073709551616) && decide (r.node.kind ≤ 255) && decide (r.node.ref < 18446744073709551616) && (r.node.ref == 0 || ((rowM rows) r.node.ref).isSome) && (decide ((parR rows r.id).1 < r.id) || (parR rows r.id).1 == 0)) &&
 (match rowM rows 1 with | none => false | some nd => nd.kind == 1) && chkTree rows &&
 decide ((modsK (rowM rows)).map (nameK (rowM rows))).Nodup && ((modsK (rowM rows)).all fun m => decide ((funcsK (rowM rows) m).map (nameK (rowM rows))).Nodup && (funcsK (rowM rows) m).all fun f => chkNames (rowM rows) f)
def chkAll (rows : List Row) (right : Nat) : Bool := chkRows rows && match wk (rowM rows) 1000 [1] [] with
 | none => false
 | some xs => xs.all (chkNode rows) && rightK (rowM rows) (abvR rows) xs == right
theorem chk_right {rows : List Row} {right : Nat} (h : chkAll rows right = true) : ∃ xs, RightOk (rowM rows) (parR rows) (abvR rows) 1000 1000 xs ∧ rightK (rowM rows) (abvR rows) xs = right := by
 unfold chkAll at h
 rw [Bool.and_eq_true] at h
 obtain ⟨hr, h⟩ := h
 cases hw : wk (rowM rows) 1000 [1] [] with
 | none => rw [hw] at h; cases h
 | some xs =>
 rw [hw] at h
 dsimp only at h
 rw [Bool.and_eq_true, List.all_eq_true, beq_iff_eq] at h
 obtain ⟨hx, hri⟩ := h
 unfold chkRows at hr
 simp only [Bool.and_eq_true, List.all_eq_true, decide_eq_true_eq, Bool.or_eq_true, beq_iff_eq] at hr
 obtain ⟨⟨⟨⟨⟨hnd, hall⟩, hroot⟩, htree⟩, hmod⟩, hfun⟩ := hr
 have hRO : RowsOk rows := ⟨hnd, fun r hr => (hall r hr).1.1.1.1.1, fun r hr => (hall r hr).1.1.1.1.2⟩
 have hD : Hg.RowsOk rows ∧ DecR rows := ⟨hRO, fun r hr => (hall r hr).2⟩
 have hN : ∀ x ∈ xs, _ := fun x hxm => hx x hxm
 simp only [chkNode, Bool.and_eq_true, decide_eq_true_eq, Bool.or_eq_true, beq_iff_eq, Bool.not_eq_true', Bool.or_eq_false_iff, beq_eq_false_iff_ne] at hN
 refine ⟨xs, ⟨parOk_rows hRO, ⟨?_, hw, by omega, fun x hm => ?_, fun x hm => (hN x hm).1.1.1.1.1.1.1.1.2, fun x hm => (hN x hm).1.1.1.1.1.1.1.2, fun x hm => (hN x hm).1.1.1.1.1.1.2, fun x hm => (hN x hm).1.1.1.1.1.2, fun x hm hk => ?_, fun x hm hk => ?_⟩, ⟨hmod, fun m hm => (hfun m hm).1, fun m hm f hf => ?_⟩, by omega, fun x hm hk => ?_, abvOk_rows hRO hD.2 (fun r hr => (hall r hr).1.1.1.2), fun i nd hm => ?_, fun x hm => (hN x hm).1.1.1.1.1.1.1.1.1, fun x hm hk => ?_, fun x hm hk => ?_⟩, hri⟩
 ·
  unfold chkTree at htree
  cases hT : tRun (rowM rows) 1000 [1] [(1, 1)] with
  | none => rw [hT] at htree; cases htree
  | some R =>
    rw [hT] at htree
    simp only [Bool.and_eq_true, List.all_eq_true] at htree
    refine ⟨1000, R, ⟨?_, hT, fun i => ?_, fun i nd hm => ?_⟩⟩
    ·
     cases hm : rowM rows 1 with
     | none => rw [hm] at hroot; cases hroot
     | some nd => rw [hm] at hroot; exact ⟨nd, rfl, by simpa using hroot⟩
    ·
     cases hm : rowM rows i with
     | none =>
       cases hg : (gl R i).isSome with
       | false => rfl
       | true =>
         obtain ⟨p, hp, e⟩ := gl_key_mem R i hg
         have := htree.1 p hp
         rw [e, hm] at this
         cases this
     | some n =>
       obtain ⟨r, hr, e, _⟩ := (rowM_some hRO).1 hm
       have := htree.2 r hr
       rw [e] at this
       rw [this]; rfl
    ·
     obtain ⟨r, hr, _, rfl⟩ := (rowM_some hRO).1 hm
     exact ⟨(hall r hr).1.1.2, (hall r hr).1.2⟩
 ·
  have := (hN x hm).1.1.1.1.1.1.1.1.1
  unfold idTop
  omega
 ·
  rcases (hN x hm).1.1.1.1.2 with e | e
  ·
   exact absurd hk e
  ·
   exact e
 ·
  rcases (hN x hm).1.1.1.2 with e | e
  ·
   exact absurd hk e
  ·
   exact e
 ·
  have h2 := (hfun m hm).2 f hf
  unfold chkNames at h2
  cases hw2 : wk (rowM rows) 1000 [f] [] with
  | none => rw [hw2] at h2; cases h2
  | some ys => rw [hw2] at h2; exact ⟨1000, ys, hw2, by omega, by simpa using h2⟩
 ·
  rcases (hN x hm).1.1.2 with e | e
  ·
   omega
  ·
   unfold chkSeen at e
   cases hs : seenK (rowM rows) (parR rows) 1000 x.1 [] [] with
   | none => rw [hs] at e; cases e
   | some R =>
     rw [hs] at e
     simp only [Bool.and_eq_true, decide_eq_true_eq] at e
     exact ⟨R, rfl, e.1, e.2⟩
 ·
  obtain ⟨r, hr, _, rfl⟩ := (rowM_some hRO).1 hm
  exact (hall r hr).1.1.2
 ·
  rcases (hN x hm).1.2 with e | e
  ·
   exact absurd hk e
  ·
   exact e
 ·
  rcases (hN x hm).2 with e | e
  ·
   exact absurd e hk
  ·
   exact e
end Go.Proofs.YtoelmnamlnbdhaaGreatDoor
namespace Go.Proofs.YtoelmnamlnbdhaaGreatDoor
open Go.RowKit
open Hg (Row rowM KB GT)
def numB (l : List Hg.Tok) : Bool := l.all fun t => !(t.kind == 2) || (List.range 256).any fun n => t.text == Hg.numT n
def chkText (s : List UInt8) : Bool := decide (s.length ≤ 100000) && match Hg.r8all s with
 | none => false
 | some L => numB L && decide (L.length ≤ 1000000) && match Hg.gProg L with
   | none => false
   | some t => decide (t.subs.length ≤ 5000) && t.subs.all fun x => x.nd.ref == 0 && decide (x.nd.name.length ≤ 1000000) && decide (x.tt.length ≤ 1000000) && decide (x.md.length ≤ 1000000)
theorem chkText_ok {s : List UInt8} (h : chkText s = true) : ∃ L t0, GPOk s L t0 := by
 unfold chkText at h
 rw [Bool.and_eq_true, decide_eq_true_eq] at h
 obtain ⟨hl, h⟩ := h
 cases hL : Hg.r8all s with
 | none => rw [hL] at h; cases h
 | some L =>
 rw [hL] at h
 dsimp only at h
 cases hg : Hg.gProg L with
 | none => rw [hg] at h; simp at h
 | some t =>
 rw [hg] at h
 simp only [Bool.and_eq_true, decide_eq_true_eq, List.all_eq_true, beq_iff_eq] at h
 refine ⟨L, t, hl, hL, ?_, h.1.2, hg, h.2.1, fun x hx => ?_⟩
 ·
  intro tk htk hk
  have := h.1.1
  unfold numB at this
  rw [List.all_eq_true] at this
  have := this tk htk
  rw [hk] at this
  simp only [beq_self_eq_true, Bool.not_true, Bool.false_or, List.any_eq_true, List.mem_range, beq_iff_eq] at this
  exact this
 ·
  obtain ⟨⟨⟨h1, h2⟩, h3⟩, h4⟩ := h.2.2 x hx
  exact ⟨h1, h2, h3, h4⟩
def chkKB (rows : List Row) : Bool := rows.all fun r => r.node.kids.all fun k => decide (k < 18446744073709551616)
theorem kb_rows {rows : List Row} (h : chkKB rows = true) : KB (rowM rows) := by
 intro i nd hm k hk
 unfold rowM at hm
 cases hf : rows.find? (fun r => r.id == i) with
 | none => rw [hf] at hm; cases hm
 | some r =>
   rw [hf] at hm
   injection hm with hm
   have hr := List.mem_of_find?_eq_some hf
   unfold chkKB at h
   rw [List.all_eq_true] at h
   have h2 := h r hr
   rw [List.all_eq_true] at h2
   subst hm
   simpa using h2 k hk
def goodR (s : List UInt8) (rows : List Hg.Row) (right mn : Nat) : Bool := chkText s && match Hg.gParse s with
 | .error _ => false
 | .ok r => decide (r = rows) && (chkKB rows && (chkAll rows right && Hg.mainK (rowM rows) == mn))
def GoodResR (rows : List Hg.Row) (right mn : Nat) (w : World) (e : Ending) (w' : World) : Prop :=
 ∃ ab, e = .returned (.tuple #[.pointer (some ⟨ab, 0, none⟩), .int .i64 0]) ∧ ArOk w' ab (rowM rows) ∧ Hg.mainK (rowM rows) = mn ∧ Below w.heap.size w w' ∧
   ∀ W, ArOk W ab (rowM rows) → TabOk W → Calls Tryz.prog 14 #[.pointer (some ⟨ab, 0, none⟩)] W fun e w' => e = .returned (.int .i64 (right : Int)) ∧ Below W.heap.size W w'
theorem goodR_any {s : List UInt8} {rows : List Hg.Row} {right mn : Nat} (h : goodR s rows right mn = true) (w : World) (hT : TabOk w) (hTP : TabP w) :
 Calls Tryz.prog 5 #[.string ⟨s.toArray⟩] w (GoodResR rows right mn w) := by
 unfold goodR at h
 rw [Bool.and_eq_true] at h
 obtain ⟨hc, h⟩ := h
 obtain ⟨L, t0, hG⟩ := chkText_ok hc
 cases hp : Hg.gParse s with
 | error e => rw [hp] at h; cases h
 | ok r =>
   rw [hp] at h
   simp only [Bool.and_eq_true, decide_eq_true_eq, beq_iff_eq] at h
   obtain ⟨hr, hkb, hch, hmn⟩ := h
   subst hr
   obtain ⟨xs, hR, hri⟩ := chk_right hch
   refine (gparse_any s L t0 hG w hT hTP _ hp (fun e => by cases e)).mono ?_
   rintro e w' ⟨hb, ab, mb, c, rfl, hAr⟩
   exact ⟨ab, rfl, ⟨⟨mb, c, hAr⟩, kb_rows hkb⟩, hmn, hb, fun W hA hT => by
    have := right_any ab (rowM r) _ _ _ _ xs W hA hT hR
    rw [hri] at this
    exact this⟩
end Go.Proofs.YtoelmnamlnbdhaaGreatDoor
namespace Hg
@[reducible] def lpA : Str := [109,111,100,117,108,101,32,109,97,105,110,32,123,32,102,117,110,99,32,109,97,105,110,40,41,32,105,110,116,32,123,32,108,101,116,32,105,32,105,110,116,32,61,32,48,59,32,119,104,105,108,101,32,40,105,32,60,32]
@[reducible] def lpB : Str := [41,32,123,32,105,32,61,32,40,105,32,43,32,49,41,59,32,112,114,105,110,116,32,105,59,32,125,32,114,101,116,117,114,110,32,105,59,32,125,32,125]
def textL (n : Nat) : Str := lpA ++ (numT n ++ lpB)
def loopRows (n : Nat) : List Row := (List.range 19).map fun k => ⟨k + 1, (loopM n (k + 1)).getD Node.zero⟩
@[reducible] def awT : Str := [109,111,100,117,108,101,32,109,97,105,110,32,123,32,102,117,110,99,32,109,97,105,110,40,41,32,105,110,116,32,123,32,112,114,105,110,116,32,49,59,32,114,101,116,117,114,110,32,50,59,32,125,32,125]
def awM : Nat → Option Node
 | 1 => some ⟨1, [], 0, 0, 0, [2]⟩
 | 2 => some ⟨2, [109, 97, 105, 110], 0, 0, 0, [3]⟩
 | 3 => some ⟨3, [109, 97, 105, 110], 0, 1, 0, [4]⟩
 | 4 => some ⟨5, [], 0, 0, 0, [5, 7]⟩
 | 5 => some ⟨11, [], 0, 0, 0, [6]⟩
 | 6 => some ⟨13, [], 1, 0, 0, []⟩
 | 7 => some ⟨10, [], 0, 0, 0, [8]⟩
 | 8 => some ⟨13, [], 2, 0, 0, []⟩
 | _ => none
def awRows : List Row := (List.range 8).map fun k => ⟨k + 1, (awM (k + 1)).getD Node.zero⟩
end Hg
namespace Go.Proofs.YtoelmnamlnbdhaaGreatDoor
open Go.RowKit
set_option maxRecDepth 100000 in
theorem awR : goodR Hg.awT Hg.awRows 0 3 = true := by decide +kernel
end Go.Proofs.YtoelmnamlnbdhaaGreatDoor
namespace Go.Proofs.YtoelmnamlnbdhaaGreatDoor
open Go.RowKit
open Hg (RC RS RV KB)
variable {C : RC} {ab mb nb fb n : Nat} {w0 w w' : World} {s s' : RS} {tv tv' : Value} {R : RV}
theorem Mach.start (hA : ArOk w ab C.M) (hF : C.fuel ≤ 50000) : Mach C ab (w.heap.size + 1) w.heap.size w ((w.alloc (.map #[] 0)).alloc (.cells (machCells ab w.heap.size C.fuel Hg.rs0 (.slice none 0 0)) 58)) Hg.rs0 (.slice none 0 0) := by
 have h1 : Below w.heap.size w (w.alloc (.map #[] 0)) := (Below.refl _ _).alloc (Nat.le_refl _) _
 have hz : (w.alloc (.map #[] 0)).heap.size = w.heap.size + 1 := by simp
 have h2 : ∀ o, Below (w.alloc (.map #[] 0)).heap.size (w.alloc (.map #[] 0)) ((w.alloc (.map #[] 0)).alloc o) := fun o => (Below.refl _ _).alloc (Nat.le_refl _) _
 refine ⟨?_, hA, h1.trans ((h2 _).mono h1.size), World.ownsRow_nil _ _ _ _, ⟨0, fun _ => none, (ArMapZ.made _ w).below (h2 _) (Nat.le_refl _), Nat.zero_le _, fun id n h => (by cases h)⟩, ⟨by omega, Nat.le_refl _⟩, fun e => (by cases e), hF, Nat.zero_le _⟩
 have h3 := heap_alloc_new (w.alloc (.map #[] 0)) (.cells (machCells ab w.heap.size C.fuel Hg.rs0 (.slice none 0 0)) 58)
 rw [hz] at h3
 exact h3
@[reducible] def resV (e : Nat) (x : Int) (v : Value) (u : Nat) : Value := .agg #[.int .u8 (e : Int), i64V x, v, .int .i64 (u : Int), .int .i64 0]
def RunRRes (x : Int) (s' : RS) (w : World) (e : Ending) (w' : World) : Prop :=
 ∃ v, e = .returned (.agg #[.int .u8 (s'.e : Int), i64V (if s'.e = 0 then x else 0), v, .int .i64 (s'.used : Int), .int .i64 0]) ∧ w'.ownsRow w.heap.size 2 1 v s'.trace.length (s'.trace.map i64V) ∧ Below w.heap.size w w'
theorem five_cells {w : World} {b : Nat} {a0 a1 a2 a3 a4 a5 a6 a7 a8 : Value} (h : w.heap[b]? = some (.cells #[a0, a1, a2, a3, a4, a5, a6, a7, a8] 58 (0, 0))) :
 w.cell? ⟨b, 4, none⟩ = some a4 ∧ w.cell? ⟨b, 5, none⟩ = some a5 ∧ w.cell? ⟨b, 6, none⟩ = some a6 ∧ w.cell? ⟨b, 7, none⟩ = some a7 ∧ w.cell? ⟨b, 8, none⟩ = some a8 ∧ ∀ i, w.frozen? ⟨b, i, none⟩ = false := by
 have z := fun i => cell_of_row w b i _ _ (0, 0) h
 have z4 := z 4; have z5 := z 5; have z6 := z 6; have z7 := z 7; have z8 := z 8
 simp at z4 z5 z6 z7 z8
 exact ⟨z4, z5, z6, z7, z8, fun i => by simp [World.frozen?, h]⟩
theorem set5_below {B g : Nat} {w w1 : World} (h : Below B w w1) (hg : B ≤ g) (u0 u1 u2 u3 u4 : Value) :
 Below B w (((((w1.setCell ⟨g, 0, none⟩ u0).setCell ⟨g, 1, none⟩ u1).setCell ⟨g, 2, none⟩ u2).setCell ⟨g, 3, none⟩ u3).setCell ⟨g, 4, none⟩ u4) :=
 ((((h.setCell (p := ⟨g, 0, none⟩) hg _).setCell (p := ⟨g, 1, none⟩) hg _).setCell (p := ⟨g, 2, none⟩) hg _).setCell (p := ⟨g, 3, none⟩) hg _).setCell (p := ⟨g, 4, none⟩) hg _
theorem set5_own {w1 : World} {base g : Nat} {e : TypeId} {v : Value} {n : Nat} {xs : List Value} (h : w1.ownsRow base e 1 v n xs) (hg : g < base) (u0 u1 u2 u3 u4 : Value) :
 (((((w1.setCell ⟨g, 0, none⟩ u0).setCell ⟨g, 1, none⟩ u1).setCell ⟨g, 2, none⟩ u2).setCell ⟨g, 3, none⟩ u3).setCell ⟨g, 4, none⟩ u4).ownsRow base e 1 v n xs :=
 own_set_ne (own_set_ne (own_set_ne (own_set_ne (own_set_ne h hg _) hg _) hg _) hg _) hg _
set_option maxHeartbeats 8000000 in
set_option maxRecDepth 100000 in
theorem run_any (hRB : ∀ id, (C.nd id).ref < idTop) (d f : Nat) (x : Int) (h : C.call d f Hg.rs0 = some (x, s')) (hA : ArOk w ab C.M) (hF : C.fuel ≤ 50000) (hM : Hg.mainK C.M = f) (hT : TabOk w)
 (hR : ∀ W, ArOk W ab C.M → TabOk W → Calls Tryz.prog 14 #[.pointer (some ⟨ab, 0, none⟩)] W fun e w' => e = .returned (.int .i64 0) ∧ Below W.heap.size W w') :
 Calls Tryz.prog 7 #[.pointer (some ⟨ab, 0, none⟩), .slice none 0 0, .int .i64 (C.fuel : Int)] w (RunRRes x s' w) := by
 have hb1 : Below w.heap.size w (w.alloc (.cells #[.int .u8 0, .int .i64 0, .slice none 0 0, .int .i64 0, .int .i64 0] 32)) := (Below.refl _ _).alloc (Nat.le_refl _) _
 have hn1 := heap_alloc_new w (.cells #[.int .u8 0, .int .i64 0, .slice none 0 0, .int .i64 0, .int .i64 0] 32)
 have hz1 : (w.alloc (.cells #[.int .u8 0, .int .i64 0, .slice none 0 0, .int .i64 0, .int .i64 0] 32)).heap.size = w.heap.size + 1 := by simp
 have HR := Lib.hid (fun W (hb : Below w.heap.size w W) => hR W (hA.below hb) (hT.block (hb.block _ hT.lt)))
 have HA := Lib.hid hA
 have HC := Lib.hid h
 have HMN := Lib.hid hM
 have HRB := Lib.hid hRB
 have hmx : max (C.fuel : Int) 0 = (C.fuel : Int) := by omega
 have hmn : min (C.fuel : Int) 50000 = (C.fuel : Int) := by omega
 have HF := Lib.hid hF
 have hmm := @run_makeMap Tryz.prog
 clear hA hT hR h hM hF hRB
 go_enter Tryz.func7, Tryz.ntmps7
 go_upto_region 1 with fail
 generalize World.alloc w _ = w1 at hb1 hn1 hz1 ⊢
 have TR := Lib.hid (HR.out w1 hb1)
 go_wp2_with fail
 refine TR.out.mono ?_
 rintro e w2 ⟨rfl, hb2⟩
 have HB2 := Lib.hid (hb1.trans (hb2.mono hb1.size))
 have hn2 := (hb2.block w.heap.size (by omega)).trans hn1
 have HZ2 := Lib.hid (show w.heap.size < w2.heap.size from by have := hb2.size; omega)
 have HN2 := Lib.hid hn2
 clear hb2 hb1 hn1 hz1 TR hn2
 go_upto_region 4 with fail
 generalize hW : World.alloc (World.alloc w2 _) _ = w4
 have hM4 : Mach C ab (w2.heap.size + 1) w2.heap.size w2 w4 Hg.rs0 (.slice none 0 0) := by rw [← hW]; exact Mach.start (HA.out.below HB2.out) HF.out
 have hb4 : Below w.heap.size w w4 := by rw [← hW]; exact (HB2.out.alloc HB2.out.size _).alloc (by have := HB2.out.size; simp; omega) _
 have HM4 := Lib.hid hM4
 have HB4 := Lib.hid hb4
 have TM := main_any ab C.M w4 (HA.out.below hb4)
 rw [HMN.out] at TM
 have TM := Lib.hid TM
 generalize hnb : w2.heap.size = nb at *
 clear hM4 hb4 hW
 go_wp2_with fail
 refine TM.out.mono ?_
 rintro e w5 ⟨rfl, hb5⟩
 have TC := Lib.hid (call_rany HRB.out d f x HC.out (HM4.out.below hb5))
 have HB5 := Lib.hid (HB4.out.trans (hb5.mono HB4.out.size))
 clear TM hb5
 go_wp2_with fail
 refine TC.out.mono ?_
 rintro e w6 ⟨rfl, tv5, hM6⟩
 obtain ⟨ta, tc, rfl, -⟩ := Sl.of_own hM6.tr
 have hB6 := HB2.out.trans (hM6.bel.mono HB2.out.size)
 have hn6 := (hM6.bel.block w.heap.size (by have := HZ2.out; omega)).trans HN2.out
 have HM6 := Lib.hid hM6
 have HB6 := Lib.hid hB6
 have hlo := hM6.lo.1
 obtain ⟨c4, c5, c6, c7, c8, cf⟩ := five_cells hM6.cell
 have ff : ∀ i, w6.frozen? ⟨w.heap.size, i, none⟩ = false := fun i => by simp [World.frozen?, hn6]
 have zz := fun i => cell_of_row w6 w.heap.size i _ _ (0, 0) hn6
 have z0 := zz 0; have z1 := zz 1; have z2 := zz 2; have z3 := zz 3; have z4 := zz 4
 simp at z0 z1 z2 z3 z4
 have hne : nb + 1 ≠ w.heap.size := by have := HZ2.out; omega
 have hgm : w.heap.size < nb + 1 := by have := HZ2.out; omega
 have hne2 : w.heap.size ≠ nb + 1 := fun e => hne e.symm
 have HG := Lib.hid (show w.heap.size < w2.heap.size from by have := HZ2.out; omega)
 have HTR := Lib.hid hM6.tr
 have HTM := Lib.hid hM6.tm
 clear hM6 hB6 hn6 zz hlo TC HN2 hnb
 generalize nb + 1 = mb at *
 by_cases he : s'.e = 0
 ·
  have q : ((s'.e : Int) == 0) = true := by simp [he]
  have HE := Lib.hid he
  have HBB := Lib.hid (HB6.out.setCell (p := ⟨mb, 5, none⟩) (Nat.le_of_lt hgm) (i64V x))
  have HOW := Lib.hid (ownsRow_fr HTR.out ((Fr.refl (fun q => q = mb) w6).set (p := ⟨mb, 5, none⟩) (.inl rfl) (i64V x)) (fun q e e' => HTM.out (e' ▸ e)))
  clear he
  go_wp2
  have hbF := set5_below HBB.out (Nat.le_refl _) (.int .u8 (s'.e : Int)) (i64V x) (.slice ta s'.trace.length tc) (.int .i64 (s'.used : Int)) (.int .i64 0)
  have hoF := set5_own (g := w.heap.size) HOW.out HG.out (.int .u8 (s'.e : Int)) (i64V x) (.slice ta s'.trace.length tc) (.int .i64 (s'.used : Int)) (.int .i64 0)
  exact bodyPost_ret (v := resV s'.e x (.slice ta s'.trace.length tc) s'.used) (by simp [results, Tryz.results7, go_sem, z0, z1, z2, z3, z4, ff, hne, hne2]) rfl ⟨_, by rw [if_pos HE.out], ownsRow_base hoF (Nat.le_of_lt HG.out), hbF⟩
 ·
  have q : ((s'.e : Int) == 0) = false := by simp; omega
  have HE := Lib.hid he
  have HBB := Lib.hid HB6.out
  have HOW := Lib.hid HTR.out
  clear he
  go_wp2
  have hbF := set5_below HBB.out (Nat.le_refl _) (.int .u8 (s'.e : Int)) (i64V 0) (.slice ta s'.trace.length tc) (.int .i64 (s'.used : Int)) (.int .i64 0)
  have hoF := set5_own (g := w.heap.size) HOW.out HG.out (.int .u8 (s'.e : Int)) (i64V 0) (.slice ta s'.trace.length tc) (.int .i64 (s'.used : Int)) (.int .i64 0)
  exact bodyPost_ret (v := resV s'.e 0 (.slice ta s'.trace.length tc) s'.used) (by simp [results, Tryz.results7, go_sem, z0, z1, z2, z3, z4, ff, hne, hne2]) rfl ⟨_, by rw [if_neg HE.out], ownsRow_base hoF (Nat.le_of_lt HG.out), hbF⟩
end Go.Proofs.YtoelmnamlnbdhaaGreatDoor
namespace Go.Proofs.YtoelmnamlnbdhaaGreatDoor
open Go.RowKit
open Hg (numT)
def DecRes (n : Nat) (w : World) (e : Ending) (w' : World) : Prop := e = .returned (.string ⟨(numT n).toArray⟩) ∧ w' = w
set_option maxHeartbeats 4000000 in
set_option maxRecDepth 100000 in
theorem dec1_any (n : Nat) (hn : n < 10) (w : World) : Calls Tryz.prog 6 #[.int .u64 (n : Int)] w (DecRes n w) := by
 obtain rfl | rfl | rfl | rfl | rfl | rfl | rfl | rfl | rfl | rfl : n = 0 ∨ n = 1 ∨ n = 2 ∨ n = 3 ∨ n = 4 ∨ n = 5 ∨ n = 6 ∨ n = 7 ∨ n = 8 ∨ n = 9 := by omega
 all_goals
  go_enter Tryz.func6, Tryz.ntmps6
  go_wp2
  go_ret
  exact ⟨rfl, rfl⟩
theorem numT2 (n : Nat) (h : 10 ≤ n) (h2 : n < 256) : (⟨(numT n).toArray⟩ : ByteArray) = ⟨(numT (n / 10)).toArray⟩ ++ ⟨(numT (n % 10)).toArray⟩ := by
 apply ByteArray.ext
 rw [ByteArray.data_append]
 simp only [List.append_toArray]
 refine congrArg List.toArray ?_
 unfold numT
 by_cases h3 : n < 100
 ·
  rw [if_neg (by omega), if_pos h3, if_pos (by omega), if_pos (by omega)]
  rfl
 ·
  rw [if_neg (by omega), if_neg h3, if_neg (by omega), if_pos (by omega), if_pos (by omega), show n / 10 / 10 = n / 100 by omega]
  rfl
theorem numT_len (n : Nat) : (numT n).length ≤ 3 := by
 unfold numT
 split
 ·
  simp
 ·
  split <;> simp
set_option maxHeartbeats 4000000 in
set_option maxRecDepth 100000 in
theorem decS_any (n : Nat) (hn : 10 ≤ n) (h2 : n < 256) (w : World) (h1 : Calls Tryz.prog 6 #[.int .u64 ((n : Int) / 10)] w (DecRes (n / 10) w)) : Calls Tryz.prog 6 #[.int .u64 (n : Int)] w (DecRes n w) := by
 have H1 := Lib.hid h1
 have h3 := dec1_any (n % 10) (by omega) w
 rw [show (((n % 10 : Nat)) : Int) = (n : Int) % 10 by omega] at h3
 have H2 := Lib.hid h3
 have hn0 : (0 : Int) ≤ (n : Int) := by omega
 have hn1 : (n : Int) ≤ 255 := by omega
 have q : decide ((n : Int) < 10) = false := by simp; omega
 have HN := Lib.hid (numT2 n hn h2)
 have hb : ¬ 9223372036854775807 < (numT (n / 10)).length + (numT (n % 10)).length := by have := numT_len (n / 10); have := numT_len (n % 10); omega
 clear h1 hn h2 h3
 go_enter Tryz.func6, Tryz.ntmps6
 go_wp2_with fail
 refine H1.out.mono ?_
 rintro e w' ⟨rfl, rfl⟩
 go_wp2_with fail
 refine H2.out.mono ?_
 rintro e w' ⟨rfl, rfl⟩
 go_wp2
 go_ret
 exact ⟨by rw [HN.out]; rfl, rfl⟩
theorem dec_any (n : Nat) (hn : n < 256) (w : World) : Calls Tryz.prog 6 #[.int .u64 (n : Int)] w (DecRes n w) := by
 by_cases h1 : n < 10
 ·
  exact dec1_any n h1 w
 by_cases h2 : n < 100
 ·
  have h := dec1_any (n / 10) (by omega) w
  rw [show (((n / 10 : Nat)) : Int) = (n : Int) / 10 by omega] at h
  exact decS_any n (by omega) hn w h
 ·
  have h := dec1_any (n / 10 / 10) (by omega) w
  rw [show (((n / 10 / 10 : Nat)) : Int) = ((n / 10 : Nat) : Int) / 10 by omega] at h
  have h' := decS_any (n / 10) (by omega) (by omega) w h
  rw [show (((n / 10 : Nat)) : Int) = (n : Int) / 10 by omega] at h'
  exact decS_any n (by omega) hn w h'
end Go.Proofs.YtoelmnamlnbdhaaGreatDoor
namespace Hg
theorem rowM_ref (rows : List Row) (h : rows.all (fun r => decide (r.node.ref < 18446744073709551616)) = true) (id : Nat) : ((rowM rows id).getD Node.zero).ref < 18446744073709551616 := by
 unfold rowM
 cases hf : rows.find? (fun r => r.id == id) with
 | none => exact (by decide : (0 : Nat) < 18446744073709551616)
 | some r => exact of_decide_eq_true (List.all_eq_true.1 h r (List.mem_of_find?_eq_some hf))
end Hg
namespace Go.Proofs.YtoelmnamlnbdhaaGreatDoor
open Go.RowKit
open Hg (RC RS RV KB rowM)
def awC : RC := ⟨rowM Hg.awRows, 9⟩
theorem awCall : awC.call 10 3 Hg.rs0 = some (2, ⟨0, 3, [1], 6⟩) := by kernel_rfl
theorem awRef (id : Nat) : (awC.nd id).ref < idTop := Hg.rowM_ref Hg.awRows (by decide) id
set_option maxHeartbeats 8000000 in
set_option maxRecDepth 100000 in
theorem awakeR_any (w : World) (hT : TabOk w) (hTP : TabP w) : Calls Tryz.prog 4 #[] w fun e w' => e = .returned (.bool true) ∧ Below w.heap.size w w' := by
 have T1 := Lib.hid (goodR_any awR w hT hTP)
 have HT := Lib.hid hT
 clear hT hTP
 go_enter Tryz.func4, Tryz.ntmps4
 go_wp2_with fail
 refine T1.out.mono ?_
 rintro e w1 ⟨ab, rfl, hA1, hm1, hb1, hR1⟩
 have HB1 := Lib.hid hb1
 have T2 := Lib.hid (show Calls Tryz.prog 7 #[.pointer (some ⟨ab, 0, none⟩), .slice none 0 0, .int .i64 9] w1 (RunRRes 2 ⟨0, 3, [1], 6⟩ w1) from run_any (C := awC) awRef 10 3 2 awCall hA1 (by decide) hm1 (HT.out.block (hb1.block _ HT.out.lt)) hR1)
 clear T1 hA1 hb1 hR1 hm1
 go_wp2_with fail
 refine T2.out.mono ?_
 rintro e w2 ⟨v, rfl, ho2, hb2⟩
 obtain ⟨y3, z3, rfl⟩ := ownsRow_succ ho2
 have HB2 := Lib.hid (HB1.out.trans (hb2.mono HB1.out.size))
 have HO2 := Lib.hid ho2
 obtain ⟨b, o, hbo, -, e1⟩ := (Sl.of_own ho2).mapAt (f := i64V) (l := [1]) (k := 0) (by decide)
 injection hbo with hbo
 injection hbo with hb1 hb3
 subst hb1; subst hb3
 have e1 : w2.cell? ⟨y3, 0, none⟩ = some (i64V 1) := e1
 clear T2 ho2 hb2
 go_upto_region 3 with fail
 have hb4 := HB2.out.alloc HB2.out.size (.cells #[.int .u8 0, i64V 2, .slice (some ⟨y3, 0, none⟩) 1 z3, .int .i64 3, .int .i64 0] 32)
 have e2 := alloc_cell7 e1 (.cells #[.int .u8 0, i64V 2, .slice (some ⟨y3, 0, none⟩) 1 z3, .int .i64 3, .int .i64 0] 32)
 have hn4 := heap_alloc_new w2 (.cells #[.int .u8 0, i64V 2, .slice (some ⟨y3, 0, none⟩) 1 z3, .int .i64 3, .int .i64 0] 32)
 generalize hW : World.alloc w2 _ = w4 at hb4 e2 hn4 ⊢
 have zz := fun i => cell_of_row w4 w2.heap.size i _ _ (0, 0) hn4
 have z0 := zz 0; have z1 := zz 1; have z2 := zz 2; have z3' := zz 3
 simp at z0 z1 z2 z3'
 have HB4 := Lib.hid hb4
 clear hW hb4 zz e1 hn4
 go_wp2
 go_ret
 exact ⟨rfl, HB4.out⟩
end Go.Proofs.YtoelmnamlnbdhaaGreatDoor
namespace Go.Proofs.YtoelmnamlnbdhaaGreatDoor
set_option maxRecDepth 100000 in
theorem lpq0 : ((List.range 16).all fun k => goodR (Hg.textL (k + 0)) (Hg.loopRows (k + 0)) 0 3) = true := by decide +kernel
set_option maxRecDepth 100000 in
theorem lpq1 : ((List.range 16).all fun k => goodR (Hg.textL (k + 16)) (Hg.loopRows (k + 16)) 0 3) = true := by decide +kernel
set_option maxRecDepth 100000 in
theorem lpq2 : ((List.range 16).all fun k => goodR (Hg.textL (k + 32)) (Hg.loopRows (k + 32)) 0 3) = true := by decide +kernel
set_option maxRecDepth 100000 in
theorem lpq3 : ((List.range 16).all fun k => goodR (Hg.textL (k + 48)) (Hg.loopRows (k + 48)) 0 3) = true := by decide +kernel
end Go.Proofs.YtoelmnamlnbdhaaGreatDoor
namespace Go.Proofs.YtoelmnamlnbdhaaGreatDoor
set_option maxRecDepth 100000 in
theorem lpq4 : ((List.range 16).all fun k => goodR (Hg.textL (k + 64)) (Hg.loopRows (k + 64)) 0 3) = true := by decide +kernel
set_option maxRecDepth 100000 in
theorem lpq5 : ((List.range 16).all fun k => goodR (Hg.textL (k + 80)) (Hg.loopRows (k + 80)) 0 3) = true := by decide +kernel
set_option maxRecDepth 100000 in
theorem lpq6 : ((List.range 16).all fun k => goodR (Hg.textL (k + 96)) (Hg.loopRows (k + 96)) 0 3) = true := by decide +kernel
set_option maxRecDepth 100000 in
theorem lpq7 : ((List.range 16).all fun k => goodR (Hg.textL (k + 112)) (Hg.loopRows (k + 112)) 0 3) = true := by decide +kernel
end Go.Proofs.YtoelmnamlnbdhaaGreatDoor
namespace Go.Proofs.YtoelmnamlnbdhaaGreatDoor
set_option maxRecDepth 100000 in
theorem lpq8 : ((List.range 16).all fun k => goodR (Hg.textL (k + 128)) (Hg.loopRows (k + 128)) 0 3) = true := by decide +kernel
set_option maxRecDepth 100000 in
theorem lpq9 : ((List.range 16).all fun k => goodR (Hg.textL (k + 144)) (Hg.loopRows (k + 144)) 0 3) = true := by decide +kernel
set_option maxRecDepth 100000 in
theorem lpq10 : ((List.range 16).all fun k => goodR (Hg.textL (k + 160)) (Hg.loopRows (k + 160)) 0 3) = true := by decide +kernel
set_option maxRecDepth 100000 in
theorem lpq11 : ((List.range 16).all fun k => goodR (Hg.textL (k + 176)) (Hg.loopRows (k + 176)) 0 3) = true := by decide +kernel
end Go.Proofs.YtoelmnamlnbdhaaGreatDoor
namespace Go.Proofs.YtoelmnamlnbdhaaGreatDoor
set_option maxRecDepth 100000 in
theorem lpq12 : ((List.range 16).all fun k => goodR (Hg.textL (k + 192)) (Hg.loopRows (k + 192)) 0 3) = true := by decide +kernel
set_option maxRecDepth 100000 in
theorem lpq13 : ((List.range 16).all fun k => goodR (Hg.textL (k + 208)) (Hg.loopRows (k + 208)) 0 3) = true := by decide +kernel
set_option maxRecDepth 100000 in
theorem lpq14 : ((List.range 16).all fun k => goodR (Hg.textL (k + 224)) (Hg.loopRows (k + 224)) 0 3) = true := by decide +kernel
set_option maxRecDepth 100000 in
theorem lpq15 : ((List.range 16).all fun k => goodR (Hg.textL (k + 240)) (Hg.loopRows (k + 240)) 0 3) = true := by decide +kernel
end Go.Proofs.YtoelmnamlnbdhaaGreatDoor
namespace Hg
theorem loopRows_eq (n : Nat) : rowM (loopRows n) = loopM n := by
 funext i
 by_cases h : i < 20
 ·
  obtain rfl | rfl | rfl | rfl | rfl | rfl | rfl | rfl | rfl | rfl | rfl | rfl | rfl | rfl | rfl | rfl | rfl | rfl | rfl | rfl : i = 0 ∨ i = 1 ∨ i = 2 ∨ i = 3 ∨ i = 4 ∨ i = 5 ∨ i = 6 ∨ i = 7 ∨ i = 8 ∨ i = 9 ∨ i = 10 ∨ i = 11 ∨ i = 12 ∨ i = 13 ∨ i = 14 ∨ i = 15 ∨ i = 16 ∨ i = 17 ∨ i = 18 ∨ i = 19 := by omega
  all_goals rfl
 ·
  have h1 : loopM n i = none := by
   obtain ⟨k, rfl⟩ : ∃ k, i = k + 20 := ⟨i - 20, by omega⟩
   rfl
  rw [h1]
  unfold rowM
  cases hf : (loopRows n).find? (fun r => r.id == i) with
  | none => rfl
  | some r =>
    have hm := List.mem_of_find?_eq_some hf
    have he := List.find?_some hf
    unfold loopRows at hm
    rw [List.mem_map] at hm
    obtain ⟨k, hk, rfl⟩ := hm
    rw [List.mem_range] at hk
    simp at he
    omega
theorem loopRef (n f id : Nat) : ((LC n f).nd id).ref < 18446744073709551616 := by
 have h : (LC n f).nd id = (rowM (loopRows n) id).getD Node.zero := by rw [loopRows_eq]; rfl
 rw [h]
 exact rowM_ref _ rfl id
end Hg
namespace Go.Proofs.YtoelmnamlnbdhaaGreatDoor
open Go.RowKit
open Hg (RC RS RV KB rowM LC loopRows textL)
theorem lpPart {B o : Nat} (h : ((List.range B).all fun k => goodR (textL (k + o)) (loopRows (k + o)) 0 3) = true) {n : Nat} (h1 : o ≤ n) (h2 : n < o + B) : goodR (textL n) (loopRows n) 0 3 = true := by
 have h3 := List.all_eq_true.1 h (n - o) (List.mem_range.2 (by omega))
 rw [show n - o + o = n by omega] at h3
 exact h3
theorem lp_all (n : Nat) (hn : n ≤ 255) : goodR (textL n) (loopRows n) 0 3 = true := by
 have h : n / 16 = 0 ∨ n / 16 = 1 ∨ n / 16 = 2 ∨ n / 16 = 3 ∨ n / 16 = 4 ∨ n / 16 = 5 ∨ n / 16 = 6 ∨ n / 16 = 7 ∨ n / 16 = 8 ∨ n / 16 = 9 ∨ n / 16 = 10 ∨ n / 16 = 11 ∨ n / 16 = 12 ∨ n / 16 = 13 ∨ n / 16 = 14 ∨ n / 16 = 15 := by omega
 rcases h with h | h | h | h | h | h | h | h | h | h | h | h | h | h | h | h
 ·
  exact lpPart lpq0 (by omega) (by omega)
 ·
  exact lpPart lpq1 (by omega) (by omega)
 ·
  exact lpPart lpq2 (by omega) (by omega)
 ·
  exact lpPart lpq3 (by omega) (by omega)
 ·
  exact lpPart lpq4 (by omega) (by omega)
 ·
  exact lpPart lpq5 (by omega) (by omega)
 ·
  exact lpPart lpq6 (by omega) (by omega)
 ·
  exact lpPart lpq7 (by omega) (by omega)
 ·
  exact lpPart lpq8 (by omega) (by omega)
 ·
  exact lpPart lpq9 (by omega) (by omega)
 ·
  exact lpPart lpq10 (by omega) (by omega)
 ·
  exact lpPart lpq11 (by omega) (by omega)
 ·
  exact lpPart lpq12 (by omega) (by omega)
 ·
  exact lpPart lpq13 (by omega) (by omega)
 ·
  exact lpPart lpq14 (by omega) (by omega)
 ·
  exact lpPart lpq15 (by omega) (by omega)
end Go.Proofs.YtoelmnamlnbdhaaGreatDoor
namespace Go.Proofs.YtoelmnamlnbdhaaGreatDoor
open Go.RowKit
open Hg (RC RS RV KB rowM LC loopRows textL numT lpA lpB)
set_option maxHeartbeats 8000000 in
set_option maxRecDepth 100000 in
theorem runLoops_any (n fl : Nat) (hn : n ≤ 255) (hf : fl ≤ 65535) (w : World) (hT : TabOk w) (hTP : TabP w) :
 Calls Tryz.prog 3 #[.int .u8 (n : Int), .int .u16 (fl : Int)] w fun e w' => e = .returned (.bool true) ∧ Below w.heap.size w w' := by
 have TA := Lib.hid (awakeR_any w hT hTP)
 have HT := Lib.hid (And.intro hT hTP)
 have HG := Lib.hid (lp_all n hn)
 have TD := Lib.hid (fun W => dec_any n (by omega) W)
 have hlen := numT_len n
 have hc1 : ¬ 9223372036854775807 < 58 + (numT n).length := by omega
 have hc2 : ¬ 9223372036854775807 < 58 + (numT n).length + 41 := by omega
 have HSTR := Lib.hid (show ((⟨lpA.toArray⟩ : ByteArray) ++ ⟨(numT n).toArray⟩ ++ ⟨lpB.toArray⟩) = ⟨(textL n).toArray⟩ from by
  apply ByteArray.ext
  simp [textL])
 obtain ⟨x, s, hcall, hres⟩ := Hg.call_run (n := n) (f := fl % 900) hn
 have HC := Lib.hid (And.intro hcall hres)
 have hn0 : (0 : Int) ≤ (n : Int) := by omega
 have hn1 : (n : Int) ≤ 255 := by omega
 have hf0 : (0 : Int) ≤ (fl : Int) := by omega
 have hf1 : (fl : Int) ≤ 65535 := by omega
 clear hT hTP hlen hcall hres hn hf
 go_enter Tryz.func3, Tryz.ntmps3
 go_wp2_with fail
 refine TA.out.mono ?_
 rintro e w1 ⟨rfl, hb1⟩
 have HB1 := Lib.hid hb1
 clear TA hb1
 go_wp2_with fail
 refine (TD.out w1).mono ?_
 rintro e w1' ⟨rfl, rfl⟩
 generalize numT n = tn at hc1 hc2 HSTR ⊢
 go_wp2_with fail
 rw [show ((⟨lpA.toArray⟩ : ByteArray) ++ ⟨tn.toArray⟩ ++ ⟨lpB.toArray⟩) = ⟨(textL n).toArray⟩ from HSTR.out]
 refine (goodR_any HG.out _ (HT.out.1.block (HB1.out.block _ HT.out.1.lt)) (HT.out.2.block (HB1.out.block _ HT.out.2.lt))).mono ?_
 rintro e w2 ⟨ab, rfl, hA2, hm2, hb2, hR2⟩
 have HB2 := Lib.hid (HB1.out.trans (hb2.mono HB1.out.size))
 have hrow := Hg.loopRows_eq n
 rw [hrow] at hA2 hm2 hR2
 have T2 := Lib.hid (run_any (C := LC n (fl % 900)) (Hg.loopRef n _) (n + 20) 3 x HC.out.1 hA2 (by show fl % 900 ≤ 50000; omega) hm2 (HT.out.1.block (HB2.out.block _ HT.out.1.lt)) hR2)
 rw [show (LC n (fl % 900)).fuel = fl % 900 from rfl] at T2
 clear hA2 hm2 hb2 hR2 TD HG hrow hc1 hc2 HSTR
 go_upto_region 8 with fail
 rw [show (fl : Int) % 900 = ((fl % 900 : Nat) : Int) by omega]
 generalize fl % 900 = g at T2 HC ⊢
 clear hf0 hf1
 obtain ⟨e, used, trace, nc⟩ := s
 go_wp2_with fail
 refine T2.out.mono ?_
 rintro e' w3 ⟨v, rfl, ho3, hb3⟩
 obtain ⟨ta, tc, rfl, -⟩ := Sl.of_own ho3
 have HB3 := Lib.hid (HB2.out.trans (hb3.mono HB2.out.size))
 have hz3 := HB3.out.size
 clear ho3 hb3 T2
 rcases HC.out.2 with ⟨h1, h2, h3, h4, h5⟩ | ⟨h1, h2, h3, h4⟩
 ·
  subst h2; subst h3; subst h4
  rw [if_pos rfl]
  generalize trace.length = tl at h5 ⊢
  subst h5
  have q1 : decide ((g : Int) < 4 + 3 * (tl : Int)) = false := by simp; omega
  clear HC h1
  go_wp2
  go_ret
  exact ⟨rfl, HB3.out.alloc HB3.out.size _⟩
 ·
  subst h2; subst h3
  rw [if_neg (show ¬ (2 : Nat) = 0 from by decide)]
  generalize trace.length = tl at h4 ⊢
  have q1 : decide ((used : Int) < 4 + 3 * (n : Int)) = true := by simp; omega
  have q2 : decide ((tl : Int) ≤ (n : Int)) = true := by simp; omega
  clear HC h1
  go_wp2
  go_ret
  exact ⟨rfl, HB3.out.alloc HB3.out.size _⟩
end Go.Proofs.YtoelmnamlnbdhaaGreatDoor
