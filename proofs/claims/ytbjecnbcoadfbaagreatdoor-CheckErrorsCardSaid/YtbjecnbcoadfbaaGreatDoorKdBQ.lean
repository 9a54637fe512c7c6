/-
  Part of a proof of CheckErrors: contracts of functions that the claim reaches, and plain lemmas.
-/
import Derived.Test.YtbjecnbcoadfbaaGreatDoorKdBP
set_option linter.all false
namespace Go.Proofs.YtbjecnbcoadfbaaGreatDoor
open Go.RowKit
open Hg (GT gl wk isK ndAt kidsK KB NoClash seenK wantsK okT mainK RB)
structure RightOk (M : Nat → Option Hg.Node) (par : Nat → Nat × Int) (abv : Nat → Nat) (F F2 : Nat) (xs : List (Nat × Hg.Node)) : Prop where
 prs : ParOk M par
 shaped : ShapedOk M par F xs
 clash : NoClash M
 f2 : F2 ≤ 1000000
 hidden : ∀ x ∈ xs, x.2.kind = 15 ∨ x.2.kind = 7 → ∃ R, seenK M par F2 x.1 [] [] = some R ∧ 0 ≤ idxI R x.2.ref ∧ R.length ≤ 1000000
 abo : AbvOk M abv
 rb : RB M
 id : ∀ x ∈ xs, x.1 ≤ 1000000
 h18 : ∀ x ∈ xs, x.2.kind = 18 → 0 < x.2.kids.length
 idx : ∀ x ∈ xs, x.2.kind ≠ 19 → (wantsK M abv x.1 x.2).length ≤ x.2.kids.length
def rightK (M : Nat → Option Hg.Node) (abv : Nat → Nat) (xs : List (Nat × Hg.Node)) : Nat := if xs.all (okT M abv) then (if mainK M = 0 then 3 else 0) else 11
set_option maxHeartbeats 4000000 in
set_option maxRecDepth 100000 in
theorem right_any (ab : Nat) (M : Nat → Option Hg.Node) (par : Nat → Nat × Int) (abv : Nat → Nat) (F F2 : Nat) (xs : List (Nat × Hg.Node)) (w : World) (hA : ArOk w ab M) (hT : TabOk w) (hR : RightOk M par abv F F2 xs) :
 Calls Tryz.prog 6 #[.pointer (some ⟨ab, 0, none⟩)] w fun e w' => e = .returned (.int .i64 (rightK M abv xs : Int)) ∧ Below w.heap.size w w' := by
 have T1 := Lib.hid (shaped_all_any ab M par hR.prs F xs w hA hT hR.shaped)
 have T2 := Lib.hid (fun W (h : Below w.heap.size w W) => clash_any ab M W (hA.below h) hR.clash)
 have T3 := Lib.hid (fun W (h : Below w.heap.size w W) => hidden_any ab M par hR.prs F F2 xs W (hA.below h) hR.shaped.walk hR.shaped.f hR.f2 hR.shaped.id hR.hidden)
 have T4 := Lib.hid (fun W (h : Below w.heap.size w W) => typed_any ab M abv hR.abo hR.rb F xs W (hA.below h) hR.shaped.walk hR.shaped.f hR.id hR.h18 hR.idx)
 have T5 := Lib.hid (fun W (h : Below w.heap.size w W) => main_any ab M W (hA.below h))
 unfold rightK
 generalize xs.all (okT M abv) = ok at T4 ⊢
 generalize mainK M = mk at T5 ⊢
 clear hA hT hR
 go_enter Tryz.func6, Tryz.ntmps6
 go_wp2_with fail
 refine T1.out.mono ?_
 rintro e w1 ⟨rfl, hb1⟩
 have HB1 := Lib.hid hb1
 clear T1 hb1
 go_wp2_with fail
 refine (T2.out _ HB1.out).mono ?_
 rintro e w2 ⟨rfl, hb2⟩
 have HB2 := Lib.hid (HB1.out.trans (hb2.mono HB1.out.size))
 clear T2 hb2
 go_wp2_with fail
 refine (T3.out _ HB2.out).mono ?_
 rintro e w3 ⟨rfl, hb3⟩
 have HB3 := Lib.hid (HB2.out.trans (hb3.mono HB2.out.size))
 clear T3 hb3
 go_wp2_with fail
 refine (T4.out _ HB3.out).mono ?_
 rintro e w4 ⟨rfl, hb4⟩
 have HB4 := Lib.hid (HB3.out.trans (hb4.mono HB3.out.size))
 clear T4 hb4
 cases ok with
 | false =>
   go_wp2
   go_ret
   exact ⟨rfl, HB4.out⟩
 | true =>
   go_wp2_with fail
   refine (T5.out _ HB4.out).mono ?_
   rintro e w5 ⟨rfl, hb5⟩
   have HB5 := Lib.hid (HB4.out.trans (hb5.mono HB4.out.size))
   clear T5 hb5
   by_cases h0 : mk = 0
   ·
    subst h0
    go_wp2
    go_ret
    exact ⟨rfl, HB5.out⟩
   ·
    have q0 : ((mk : Int) == 0) = false := by simp; omega
    have HN := Lib.hid h0
    clear h0
    go_wp2
    go_ret
    exact ⟨by first | rfl | (rw [if_pos rfl, if_neg HN.out]; rfl), HB5.out⟩
end Go.Proofs.YtbjecnbcoadfbaaGreatDoor
namespace Hg
open Go.Proofs.YtbjecnbcoadfbaaGreatDoor (idxI)
def bestP (id : Nat) : List Row → Nat × Int
 | [] => (0, 0)
 | r :: rows => if 0 ≤ idxI r.node.kids id ∧ ((bestP id rows).1 = 0 ∨ r.id < (bestP id rows).1) then (r.id, idxI r.node.kids id) else bestP id rows
theorem bestP_spec (id : Nat) : ∀ (rows : List Row), (∀ r ∈ rows, r.id ≠ 0) →
 ((bestP id rows).1 = 0 ∧ (bestP id rows).2 = 0 ∧ ∀ r ∈ rows, idxI r.node.kids id < 0) ∨
 ((bestP id rows).1 ≠ 0 ∧ (∃ r ∈ rows, r.id = (bestP id rows).1 ∧ idxI r.node.kids id = (bestP id rows).2 ∧ 0 ≤ (bestP id rows).2) ∧ ∀ r ∈ rows, 0 ≤ idxI r.node.kids id → (bestP id rows).1 ≤ r.id)
 | [], _ => .inl ⟨rfl, rfl, fun r h => by simp at h⟩
 | r :: rows, h0 => by
   have ih := bestP_spec id rows (fun x hx => h0 x (List.mem_cons_of_mem _ hx))
   rw [bestP]
   generalize bestP id rows = b at ih
   obtain ⟨p, k⟩ := b
   dsimp only at ih ⊢
   have hr0 := h0 r (by simp)
   by_cases hc : 0 ≤ idxI r.node.kids id ∧ (p = 0 ∨ r.id < p)
   ·
    rw [if_pos hc]
    right
    refine ⟨hr0, ⟨r, by simp, rfl, rfl, hc.1⟩, fun x hx h => ?_⟩
    rcases List.mem_cons.1 hx with e | hx
    ·
     subst e; exact Nat.le_refl _
    ·
     rcases ih with ⟨h1, h2, h3⟩ | ⟨h1, h2, h3⟩
     ·
      have := h3 x hx; omega
     ·
      have := h3 x hx h
      show r.id ≤ x.id
      omega
   ·
    rw [if_neg hc]
    rcases ih with ⟨h1, h2, h3⟩ | ⟨h1, ⟨x, hx, h2⟩, h3⟩
    ·
     left
     refine ⟨h1, h2, fun x hx => ?_⟩
     rcases List.mem_cons.1 hx with e | hx
     ·
      subst e; omega
     ·
      exact h3 x hx
    ·
     right
     refine ⟨h1, ⟨x, List.mem_cons_of_mem _ hx, h2⟩, fun y hy h => ?_⟩
     rcases List.mem_cons.1 hy with e | hy
     ·
      subst e; omega
     ·
      exact h3 y hy h
structure RowsOk (rows : List Row) : Prop where
 nodup : (rows.map Row.id).Nodup
 zero : ∀ r ∈ rows, r.id ≠ 0
 top : ∀ r ∈ rows, r.id < 18446744073709551616
theorem rowM_some {rows : List Row} (h : RowsOk rows) {i : Nat} {n : Node} : rowM rows i = some n ↔ ∃ r ∈ rows, r.id = i ∧ r.node = n := by
 unfold rowM
 constructor
 ·
  intro he
  cases hf : rows.find? (fun r => r.id == i) with
  | none => rw [hf] at he; cases he
  | some r =>
    rw [hf] at he
    injection he with he
    exact ⟨r, List.mem_of_find?_eq_some hf, by simpa using List.find?_some hf, he⟩
 ·
  rintro ⟨r, hr, rfl, rfl⟩
  rw [find_row rows h.nodup r hr]
  rfl
theorem rowM_zero {rows : List Row} (h : RowsOk rows) : rowM rows 0 = none := by
 cases hm : rowM rows 0 with
 | none => rfl
 | some n =>
   obtain ⟨r, hr, h0, _⟩ := (rowM_some h).1 hm
   exact absurd h0 (h.zero r hr)
def parR (rows : List Row) (id : Nat) : Nat × Int := bestP id rows
def abvL (rows : List Row) : Nat → Nat → Nat
 | 0, _ => 0
 | f + 1, id => if id = 0 then 0 else match rowM rows id with
   | none => 0
   | some n => if n.kind = 3 then id else abvL rows f (parR rows id).1
def abvR (rows : List Row) (id : Nat) : Nat := abvL rows (id + 1) id
end Hg
namespace Go.Proofs.YtbjecnbcoadfbaaGreatDoor
open Hg (Row Node rowM RowsOk rowM_some rowM_zero bestP bestP_spec parR abvL abvR)
theorem parR_in {rows : List Row} (h : RowsOk rows) (id : Nat) : ParIn (rowM rows) id (fun i => i < idTop) (parR rows id).1 (parR rows id).2 := by
 unfold parR
 rcases bestP_spec id rows h.zero with ⟨h1, h2, h3⟩ | ⟨h1, ⟨r, hr, h2, h4, h5⟩, h3⟩
 ·
  left
  refine ⟨h1, h2, fun i nd _ hm => ?_⟩
  obtain ⟨r, hr, rfl, rfl⟩ := (rowM_some h).1 hm
  exact h3 r hr
 ·
  right
  refine ⟨h1, ?_, ⟨r.node, (rowM_some h).2 ⟨r, hr, h2, rfl⟩, h4, h5⟩, fun i nd _ hm h0 => ?_⟩
  ·
   have := h.top r hr
   show _ < 18446744073709551616
   omega
  ·
   obtain ⟨x, hx, rfl, rfl⟩ := (rowM_some h).1 hm
   exact h3 x hx h0
theorem parOk_rows {rows : List Row} (h : RowsOk rows) : ParOk (rowM rows) (parR rows) := ⟨rowM_zero h, parR_in h⟩
def DecR (rows : List Row) : Prop := ∀ r ∈ rows, (parR rows r.id).1 < r.id ∨ (parR rows r.id).1 = 0
theorem abv_chain {rows : List Row} (h : RowsOk rows) (hd : DecR rows) : ∀ (f id : Nat), id < f → Chain (rowM rows) 3 id (abvL rows f id) := by
 intro f
 induction f with
 | zero => intro id h; omega
 | succ f ih =>
   intro id hid
   rw [abvL]
   by_cases h0 : id = 0
   ·
    rw [if_pos h0, h0]; exact .zero
   ·
    rw [if_neg h0]
    cases hm : rowM rows id with
    | none => exact .none id hm
    | some n =>
      dsimp only
      by_cases hk : n.kind = 3
      ·
       rw [if_pos hk]; exact .hit id n h0 hm hk
      ·
       rw [if_neg hk]
       refine .step id n _ _ _ h0 hm hk (parR_in h id) (ih _ ?_)
       obtain ⟨r, hr, rfl, _⟩ := (rowM_some h).1 hm
       rcases hd r hr with e | e <;> omega
theorem abvL_le {rows : List Row} (hd : DecR rows) (h : RowsOk rows) : ∀ (f id : Nat), id < f → abvL rows f id = 0 ∨ ∃ r ∈ rows, r.id = abvL rows f id := by
 intro f
 induction f with
 | zero => intro id h; omega
 | succ f ih =>
   intro id hid
   rw [abvL]
   by_cases h0 : id = 0
   ·
    rw [if_pos h0]; exact .inl rfl
   ·
    rw [if_neg h0]
    cases hm : rowM rows id with
    | none => exact .inl rfl
    | some n =>
      dsimp only
      obtain ⟨r, hr, hi, _⟩ := (rowM_some h).1 hm
      by_cases hk : n.kind = 3
      ·
       rw [if_pos hk]; exact .inr ⟨r, hr, hi⟩
      ·
       rw [if_neg hk]
       exact ih _ (by have := hd r hr; rw [hi] at this; omega)
theorem abvOk_rows {rows : List Row} (h : RowsOk rows) (hd : DecR rows) (hk : ∀ r ∈ rows, r.node.kind ≤ 255) : AbvOk (rowM rows) (abvR rows) := by
 refine ⟨rowM_zero h, fun i n hm => ?_, fun i n p k hm hp => ?_, fun id _ => abv_chain h hd _ _ (Nat.lt_succ_self _), fun id => ?_⟩
 ·
  obtain ⟨r, hr, _, rfl⟩ := (rowM_some h).1 hm
  exact hk r hr
 ·
  obtain ⟨e, _⟩ := hp.unique (parR_in h i)
  obtain ⟨r, hr, rfl, _⟩ := (rowM_some h).1 hm
  rw [e]
  exact hd r hr
 ·
  unfold abvR
  rcases abvL_le hd h (id + 1) id (Nat.lt_succ_self _) with e | ⟨r, hr, e⟩
  ·
   rw [e]; decide
  ·
   rw [← e]; exact h.top r hr
end Go.Proofs.YtbjecnbcoadfbaaGreatDoor
namespace Go.Proofs.YtbjecnbcoadfbaaGreatDoor
open Hg (Row rowM RowsOk rowM_some rowM_zero parR abvR gl wk seenK tRun TreeK KidsOk NoClash modsK funcsK nameK namesW wantsK retsK depthK okT mainK RB stP exP kk)
instance (M : Nat → Option Hg.Node) (n : Hg.Node) : Decidable (KidsOk M n) := by unfold KidsOk; infer_instance
instance (M : Nat → Option Hg.Node) (n : Hg.Node) : Decidable (PartsOk M n) := by unfold PartsOk; infer_instance
theorem gl_key_mem {β : Type} : ∀ (R : List (Nat × β)) (i : Nat), (gl R i).isSome = true → ∃ p ∈ R, p.1 = i
 | [], i, h => by cases h
 | (k, v) :: R, i, h => by
   rw [Hg.gl_cons] at h
   by_cases e : k = i
   ·
    exact ⟨(k, v), by simp, e⟩
   ·
    rw [if_neg (by simpa using e)] at h
    obtain ⟨p, hp, e⟩ := gl_key_mem R i h
    exact ⟨p, List.mem_cons_of_mem _ hp, e⟩
def chkSeen (M : Nat → Option Hg.Node) (par : Nat → Nat × Int) (x : Nat × Hg.Node) : Bool := match seenK M par 1000 x.1 [] [] with
 | none => false
 | some R => decide (0 ≤ idxI R x.2.ref) && decide (R.length ≤ 1000000)
def chkNames (M : Nat → Option Hg.Node) (f : Nat) : Bool := match wk M 1000 [f] [] with
 | none => false
 | some xs => decide (namesW xs).Nodup
def chkNode (rows : List Row) (x : Nat × Hg.Node) : Bool :=
 decide (x.1 ≤ 1000000) && decide (1 ≤ x.2.kind ∧ x.2.kind ≤ 20) && decide (KidsOk (rowM rows) x.2) && decide (PartsOk (rowM rows) x.2) && decide (x.2.kind = 1 ↔ x.1 = 1) &&
 (!(x.2.kind == 5) || retsK (rowM rows) (parR rows) x.1 x.2) && (!(x.2.kind == 3) || decide (depthK (rowM rows) 201 x.1 ≤ 90)) &&
 (!(x.2.kind == 15 || x.2.kind == 7) || chkSeen (rowM rows) (parR rows) x) && (!(x.2.kind == 18) || decide (0 < x.2.kids.length)) &&
 (x.2.kind == 19 || decide ((wantsK (rowM rows) (abvR rows) x.1 x.2).length ≤ x.2.kids.length))
def chkTree (rows : List Row) : Bool := match tRun (rowM rows) 1000 [1] [(1, 1)] with
 | none => false
 | some R => (R.all fun p => ((rowM rows) p.1).isSome) && rows.all fun r => (gl R r.id).isSome
def chkRows (rows : List Row) : Bool :=
 decide (rows.map Row.id).Nodup && (rows.all fun r => decide (r.id ≠ 0) && decide (r.id < 18446744073709551616) && decide (r.node.kind ≤ 255) && decide (r.node.ref < 18446744073709551616) && (r.node.ref == 0 || ((rowM rows) r.node.ref).isSome) && (decide ((parR rows r.id).1 < r.id) || (parR rows r.id).1 == 0)) &&
 (match rowM rows 1 with | none => false | some nd => nd.kind == 1) && chkTree rows &&
 decide ((modsK (rowM rows)).map (nameK (rowM rows))).Nodup && ((modsK (rowM rows)).all fun m => decide ((funcsK (rowM rows) m).map (nameK (rowM rows))).Nodup && (funcsK (rowM rows) m).all fun f => chkNames (rowM rows) f)
def chkAll (rows : List Row) (right : Nat) : Bool := chkRows rows && match wk (rowM rows) 1000 [1] [] with
 | none => false
 | some xs => xs.all (chkNode rows) && rightK (rowM rows) (abvR rows) xs == right
theorem chk_right {rows : List Row} {right : Nat} (h : chkAll rows right = true) : ∃ xs, RightOk (rowM rows) (parR rows) (abvR rows) 1000 1000 xs ∧ rightK (rowM rows) (abvR rows) xs = right := by
 unfold chkAll at h
 rw [Bool.and_eq_true] at h
 obtain ⟨hr, h⟩ := h
 cases hw : wk (rowM rows) 1000 [1] [] with
 | none => rw [hw] at h; cases h
 | some xs =>
 rw [hw] at h
 dsimp only at h
 rw [Bool.and_eq_true, List.all_eq_true, beq_iff_eq] at h
 obtain ⟨hx, hri⟩ := h
 unfold chkRows at hr
 simp only [Bool.and_eq_true, List.all_eq_true, decide_eq_true_eq, Bool.or_eq_true, beq_iff_eq] at hr
 obtain ⟨⟨⟨⟨⟨hnd, hall⟩, hroot⟩, htree⟩, hmod⟩, hfun⟩ := hr
 have hRO : RowsOk rows := ⟨hnd, fun r hr => (hall r hr).1.1.1.1.1, fun r hr => (hall r hr).1.1.1.1.2⟩
 have hD : Hg.RowsOk rows ∧ DecR rows := ⟨hRO, fun r hr => (hall r hr).2⟩
 have hN : ∀ x ∈ xs, _ := fun x hxm => hx x hxm
 simp only [chkNode, Bool.and_eq_true, decide_eq_true_eq, Bool.or_eq_true, beq_iff_eq, Bool.not_eq_true', Bool.or_eq_false_iff, beq_eq_false_iff_ne] at hN
 refine ⟨xs, ⟨parOk_rows hRO, ⟨?_, hw, by omega, fun x hm => ?_, fun x hm => (hN x hm).1.1.1.1.1.1.1.1.2, fun x hm => (hN x hm).1.1.1.1.1.1.1.2, fun x hm => (hN x hm).1.1.1.1.1.1.2, fun x hm => (hN x hm).1.1.1.1.1.2, fun x hm hk => ?_, fun x hm hk => ?_⟩, ⟨hmod, fun m hm => (hfun m hm).1, fun m hm f hf => ?_⟩, by omega, fun x hm hk => ?_, abvOk_rows hRO hD.2 (fun r hr => (hall r hr).1.1.1.2), fun i nd hm => ?_, fun x hm => (hN x hm).1.1.1.1.1.1.1.1.1, fun x hm hk => ?_, fun x hm hk => ?_⟩, hri⟩
 ·
  unfold chkTree at htree
  cases hT : tRun (rowM rows) 1000 [1] [(1, 1)] with
  | none => rw [hT] at htree; cases htree
  | some R =>
    rw [hT] at htree
    simp only [Bool.and_eq_true, List.all_eq_true] at htree
    refine ⟨1000, R, ⟨?_, hT, fun i => ?_, fun i nd hm => ?_⟩⟩
    ·
     cases hm : rowM rows 1 with
     | none => rw [hm] at hroot; cases hroot
     | some nd => rw [hm] at hroot; exact ⟨nd, rfl, by simpa using hroot⟩
    ·
     cases hm : rowM rows i with
     | none =>
       cases hg : (gl R i).isSome with
       | false => rfl
       | true =>
         obtain ⟨p, hp, e⟩ := gl_key_mem R i hg
         have := htree.1 p hp
         rw [e, hm] at this
         cases this
     | some n =>
       obtain ⟨r, hr, e, _⟩ := (rowM_some hRO).1 hm
       have := htree.2 r hr
       rw [e] at this
       rw [this]; rfl
    ·
     obtain ⟨r, hr, _, rfl⟩ := (rowM_some hRO).1 hm
     exact ⟨(hall r hr).1.1.2, (hall r hr).1.2⟩
 ·
  have := (hN x hm).1.1.1.1.1.1.1.1.1
  unfold idTop
  omega
 ·
  rcases (hN x hm).1.1.1.1.2 with e | e
  ·
   exact absurd hk e
  ·
   exact e
 ·
  rcases (hN x hm).1.1.1.2 with e | e
  ·
   exact absurd hk e
  ·
   exact e
 ·
  have h2 := (hfun m hm).2 f hf
  unfold chkNames at h2
  cases hw2 : wk (rowM rows) 1000 [f] [] with
  | none => rw [hw2] at h2; cases h2
  | some ys => rw [hw2] at h2; exact ⟨1000, ys, hw2, by omega, by simpa using h2⟩
 ·
  rcases (hN x hm).1.1.2 with e | e
  ·
   omega
  ·
   unfold chkSeen at e
   cases hs : seenK (rowM rows) (parR rows) 1000 x.1 [] [] with
   | none => rw [hs] at e; cases e
   | some R =>
     rw [hs] at e
     simp only [Bool.and_eq_true, decide_eq_true_eq] at e
     exact ⟨R, rfl, e.1, e.2⟩
 ·
  obtain ⟨r, hr, _, rfl⟩ := (rowM_some hRO).1 hm
  exact (hall r hr).1.1.2
 ·
  rcases (hN x hm).1.2 with e | e
  ·
   exact absurd hk e
  ·
   exact e
 ·
  rcases (hN x hm).2 with e | e
  ·
   exact absurd e hk
  ·
   exact e
end Go.Proofs.YtbjecnbcoadfbaaGreatDoor
namespace Go.Proofs.YtbjecnbcoadfbaaGreatDoor
open Go.RowKit
open Hg (Row rowM KB GT)
def numB (l : List Hg.Tok) : Bool := l.all fun t => !(t.kind == 2) || (List.range 10).any fun n => t.text == [UInt8.ofNat (48 + n)]
def chkText (s : List UInt8) : Bool := decide (s.length ≤ 100000) && match Hg.r8all s with
 | none => false
 | some L => numB L && decide (L.length ≤ 1000000) && match Hg.gProg L with
   | none => false
   | some t => decide (t.subs.length ≤ 5000) && t.subs.all fun x => x.nd.ref == 0 && decide (x.nd.name.length ≤ 1000000) && decide (x.tt.length ≤ 1000000) && decide (x.md.length ≤ 1000000)
theorem chkText_ok {s : List UInt8} (h : chkText s = true) : ∃ L t0, GPOk s L t0 := by
 unfold chkText at h
 rw [Bool.and_eq_true, decide_eq_true_eq] at h
 obtain ⟨hl, h⟩ := h
 cases hL : Hg.r8all s with
 | none => rw [hL] at h; cases h
 | some L =>
 rw [hL] at h
 dsimp only at h
 cases hg : Hg.gProg L with
 | none => rw [hg] at h; simp at h
 | some t =>
 rw [hg] at h
 simp only [Bool.and_eq_true, decide_eq_true_eq, List.all_eq_true, beq_iff_eq] at h
 refine ⟨L, t, hl, hL, ?_, h.1.2, hg, h.2.1, fun x hx => ?_⟩
 ·
  intro tk htk hk
  have := h.1.1
  unfold numB at this
  rw [List.all_eq_true] at this
  have := this tk htk
  rw [hk] at this
  simp only [beq_self_eq_true, Bool.not_true, Bool.false_or, List.any_eq_true, List.mem_range, beq_iff_eq] at this
  exact this
 ·
  obtain ⟨⟨⟨h1, h2⟩, h3⟩, h4⟩ := h.2.2 x hx
  exact ⟨h1, h2, h3, h4⟩
def chkKB (rows : List Row) : Bool := rows.all fun r => r.node.kids.all fun k => decide (k < 18446744073709551616)
theorem kb_rows {rows : List Row} (h : chkKB rows = true) : KB (rowM rows) := by
 intro i nd hm k hk
 unfold rowM at hm
 cases hf : rows.find? (fun r => r.id == i) with
 | none => rw [hf] at hm; cases hm
 | some r =>
   rw [hf] at hm
   injection hm with hm
   have hr := List.mem_of_find?_eq_some hf
   unfold chkKB at h
   rw [List.all_eq_true] at h
   have h2 := h r hr
   rw [List.all_eq_true] at h2
   subst hm
   simpa using h2 k hk
def failB (s : List UInt8) (k : Nat) : Bool := chkText s && match Hg.gParse s with
 | .error e => e == k
 | .ok _ => false
def goodB (s : List UInt8) (right mn : Nat) : Bool := chkText s && match Hg.gParse s with
 | .error _ => false
 | .ok rows => chkKB rows && chkAll rows right && Hg.mainK (rowM rows) == mn
def GoodRes (right mn : Nat) (w : World) (e : Ending) (w' : World) : Prop :=
 ∃ ab M, e = .returned (.tuple #[.pointer (some ⟨ab, 0, none⟩), .int .i64 0]) ∧ ArOk w' ab M ∧ Hg.mainK M = mn ∧ Below w.heap.size w w' ∧
   ∀ W, ArOk W ab M → TabOk W → Calls Tryz.prog 6 #[.pointer (some ⟨ab, 0, none⟩)] W fun e w' => e = .returned (.int .i64 (right : Int)) ∧ Below W.heap.size W w'
theorem fail_any {s : List UInt8} {k : Nat} (hk : k ≠ 0) (h : failB s k = true) (w : World) (hT : TabOk w) :
 Calls Tryz.prog 5 #[.string ⟨s.toArray⟩] w fun e w' => e = .returned (.tuple #[.pointer none, .int .i64 (errNo k : Int)]) ∧ Below w.heap.size w w' := by
 unfold failB at h
 rw [Bool.and_eq_true] at h
 obtain ⟨hc, h⟩ := h
 obtain ⟨L, t0, hG⟩ := chkText_ok hc
 cases hp : Hg.gParse s with
 | ok rows => rw [hp] at h; cases h
 | error e =>
   rw [hp] at h
   have he : e = k := by simpa using h
   subst he
   exact (gparse_any s L t0 hG w hT _ hp (fun e => by injection e with e; exact hk e)).mono fun e w' h => ⟨h.2, h.1⟩
theorem good_any {s : List UInt8} {right mn : Nat} (h : goodB s right mn = true) (w : World) (hT : TabOk w) :
 Calls Tryz.prog 5 #[.string ⟨s.toArray⟩] w (GoodRes right mn w) := by
 unfold goodB at h
 rw [Bool.and_eq_true] at h
 obtain ⟨hc, h⟩ := h
 obtain ⟨L, t0, hG⟩ := chkText_ok hc
 cases hp : Hg.gParse s with
 | error e => rw [hp] at h; cases h
 | ok rows =>
   rw [hp] at h
   simp only [Bool.and_eq_true, beq_iff_eq] at h
   obtain ⟨⟨hkb, hch⟩, hmn⟩ := h
   obtain ⟨xs, hR, hri⟩ := chk_right hch
   refine (gparse_any s L t0 hG w hT _ hp (fun e => by cases e)).mono ?_
   rintro e w' ⟨hb, ab, mb, c, rfl, hAr⟩
   exact ⟨ab, rowM rows, rfl, ⟨⟨mb, c, hAr⟩, kb_rows hkb⟩, hmn, hb, fun W hA hT => by
    have := right_any ab (rowM rows) _ _ _ _ xs W hA hT hR
    rw [hri] at this
    exact this⟩
end Go.Proofs.YtbjecnbcoadfbaaGreatDoor
namespace Hg
def mainT (s : Str) : Nat := match gParse s with | .ok rows => mainK (rowM rows) | .error _ => 0
end Hg
namespace Go.Proofs.YtbjecnbcoadfbaaGreatDoor
open Go.RowKit
@[reducible] def flt0 : List UInt8 := [102,117,110,99,32,102,40,97,32,105,110,116,41,32,105,110,116,32,123,32,114,101,116,117,114,110,32,49,59,32,125,32,102,117,110,99,32,102,40,97,32,105,110,116,41,32,105,110,116,32,123,32,114,101,116,117,114,110,32,49,59,32,125]
@[reducible] def flt1 : List UInt8 := [102,117,110,99,32,112,40,97,32,105,110,116,41,32,105,110,116,32,123,32,108,101,116,32,98,32,105,110,116,32,61,32,49,59,32,114,101,116,117,114,110,32,98,59,32,125,32,102,117,110,99,32,113,40,97,32,98,111,111,108,41,32,105,110,116,32,123,32,114,101,116,117,114,110,32,97,59,32,125]
@[reducible] def flt2 : List UInt8 := [102,117,110,99,32,114,40,97,32,105,110,116,41,32,105,110,116,32,123,32,114,101,116,117,114,110,32,109,46,103,40,116,114,117,101,44,32,49,41,59,32,125,32,102,117,110,99,32,103,40,97,32,105,110,116,44,32,98,32,105,110,116,41,32,105,110,116,32,123,32,114,101,116,117,114,110,32,97,59,32,125]
@[reducible] def flt3 : List UInt8 := [102,117,110,99,32,115,40,97,32,105,110,116,41,32,98,111,111,108,32,123,32,114,101,116,117,114,110,32,40,97,32,61,61,32,116,114,117,101,41,59,32,125]
@[reducible] def flt4 : List UInt8 := [102,117,110,99,32,116,40,97,32,105,110,116,41,32,105,110,116,32,123,32,105,102,32,97,32,123,32,97,32,61,32,49,59,32,125,32,101,108,115,101,32,123,32,125,32,114,101,116,117,114,110,32,97,59,32,125]
@[reducible] def flt5 : List UInt8 := [102,117,110,99,32,117,40,97,32,105,110,116,41,32,105,110,116,32,123,32,119,104,105,108,101,32,40,97,32,43,32,49,41,32,123,32,125,32,114,101,116,117,114,110,32,97,59,32,125]
@[reducible] def flt6 : List UInt8 := [102,117,110,99,32,118,40,97,32,105,110,116,41,32,105,110,116,32,123,32,100,111,32,109,46,118,40,41,59,32,114,101,116,117,114,110,32,97,59,32,125]
@[reducible] def flt7 : List UInt8 := [102,117,110,99,32,119,40,97,32,105,110,116,41,32,105,110,116,32,123,32,114,101,116,117,114,110,32,49,59,32,125]
def flts : List (List UInt8) := [flt0, flt1, flt2, flt3, flt4, flt5, flt6, flt7]
@[reducible] def txA : List UInt8 := [109,111,100,117,108,101,32,109,32,123,32]
@[reducible] def txB : List UInt8 := [32,125,32,109,111,100,117,108,101,32,110,32,123,32]
@[reducible] def txC : List UInt8 := [32,125,32,109,111,100,117,108,101,32,109,97,105,110,32,123,32,102,117,110,99,32,109,97,105,110,40,41,32,105,110,116,32,123,32,114,101,116,117,114,110,32,49,59,32,125,32,125]
def textE (x y : Nat) : List UInt8 := txA ++ (flts.getD x [] ++ (txB ++ (flts.getD y [] ++ txC)))
def lawB (x y : Nat) : Bool :=
 if x == 0 || y == 0 then failB (textE x y) 1
 else failB (textE x y) 2 && (y == 2 || y == 6) || goodB (textE x y) (if x == 7 && y == 7 then 0 else 11) (Hg.mainT (textE x y)) && (!(y == 2 || y == 6) || (x == y || x == 2 || x == 6))
set_option maxRecDepth 100000 in
theorem law0 : ((List.range 8).all fun y => lawB 0 y) = true := by decide +kernel
set_option maxRecDepth 100000 in
theorem law1 : ((List.range 8).all fun y => lawB 1 y) = true := by decide +kernel
set_option maxRecDepth 100000 in
theorem law2 : ((List.range 8).all fun y => lawB 2 y) = true := by decide +kernel
set_option maxRecDepth 100000 in
theorem law3 : ((List.range 8).all fun y => lawB 3 y) = true := by decide +kernel
set_option maxRecDepth 100000 in
theorem law4 : ((List.range 8).all fun y => lawB 4 y) = true := by decide +kernel
set_option maxRecDepth 100000 in
theorem law5 : ((List.range 8).all fun y => lawB 5 y) = true := by decide +kernel
set_option maxRecDepth 100000 in
theorem law6 : ((List.range 8).all fun y => lawB 6 y) = true := by decide +kernel
set_option maxRecDepth 100000 in
theorem law7 : ((List.range 8).all fun y => lawB 7 y) = true := by decide +kernel
theorem law_all {x y : Nat} (hx : x < 8) (hy : y < 8) : lawB x y = true := by
 have h : ((List.range 8).all fun y => lawB x y) = true := by
  rcases (show x = 0 ∨ x = 1 ∨ x = 2 ∨ x = 3 ∨ x = 4 ∨ x = 5 ∨ x = 6 ∨ x = 7 by omega) with rfl | rfl | rfl | rfl | rfl | rfl | rfl | rfl
  ·
   exact law0
  ·
   exact law1
  ·
   exact law2
  ·
   exact law3
  ·
   exact law4
  ·
   exact law5
  ·
   exact law6
  ·
   exact law7
 exact List.all_eq_true.1 h y (List.mem_range.2 hy)
set_option maxRecDepth 100000 in
theorem awk1 : goodB [109,111,100,117,108,101,32,109,97,105,110,32,123,32,102,117,110,99,32,109,97,105,110,40,41,32,105,110,116,32,123,32,114,101,116,117,114,110,32,40,49,32,43,32,116,114,117,101,41,59,32,125,32,125] 11 (Hg.mainT [109,111,100,117,108,101,32,109,97,105,110,32,123,32,102,117,110,99,32,109,97,105,110,40,41,32,105,110,116,32,123,32,114,101,116,117,114,110,32,40,49,32,43,32,116,114,117,101,41,59,32,125,32,125]) = true := by decide +kernel
set_option maxRecDepth 100000 in
theorem awk2 : goodB [109,111,100,117,108,101,32,109,97,105,110,32,123,32,102,117,110,99,32,109,97,105,110,40,41,32,105,110,116,32,123,32,114,101,116,117,114,110,32,40,49,32,43,32,50,41,59,32,125,32,125] 0 3 = true := by decide +kernel
set_option maxHeartbeats 4000000 in
set_option maxRecDepth 100000 in
theorem awakeE_any (w : World) (hT : TabOk w) : Calls Tryz.prog 4 #[] w fun e w' => e = .returned (.bool true) ∧ Below w.heap.size w w' := by
 have T1 := Lib.hid (good_any awk1 w hT)
 have T2 := Lib.hid (fun W (h : Below w.heap.size w W) => good_any awk2 W (hT.block (h.block _ hT.lt)))
 have HT := Lib.hid hT
 clear hT
 go_enter Tryz.func4, Tryz.ntmps4
 go_wp2_with fail
 refine T1.out.mono ?_
 rintro e w1 ⟨a1, M1, rfl, hA1, hm1, hb1, hR1⟩
 have HA1 := Lib.hid hA1
 have HB1 := Lib.hid hb1
 have HR1 := Lib.hid hR1
 clear T1 hA1 hb1 hR1 hm1
 go_wp2_with fail
 refine (T2.out _ HB1.out).mono ?_
 rintro e w2 ⟨a2, M2, rfl, hA2, hm2, hb2, hR2⟩
 have HA2 := Lib.hid hA2
 have HB2 := Lib.hid (HB1.out.trans (hb2.mono HB1.out.size))
 have HR2 := Lib.hid hR2
 have TR1 := Lib.hid (HR1.out w2 (HA1.out.below hb2) (HT.out.block (HB2.out.block _ HT.out.lt)))
 have HM2 := Lib.hid hm2
 clear T2 hA2 hb2 hR2 hm2
 go_wp2_with fail
 refine TR1.out.mono ?_
 rintro e w3 ⟨rfl, hb3⟩
 have HB3 := Lib.hid (HB2.out.trans (hb3.mono HB2.out.size))
 have TR2 := Lib.hid (HR2.out w3 (HA2.out.below hb3) (HT.out.block (HB3.out.block _ HT.out.lt)))
 have HA3 := Lib.hid (HA2.out.below hb3)
 clear TR1 hb3
 go_wp2_with fail
 refine TR2.out.mono ?_
 rintro e w4 ⟨rfl, hb4⟩
 have HB4 := Lib.hid (HB3.out.trans (hb4.mono HB3.out.size))
 have TM := main_any a2 M2 w4 (HA3.out.below hb4)
 rw [HM2.out] at TM
 have TM2 := Lib.hid TM
 clear TR2 hb4 TM
 go_wp2_with fail
 refine TM2.out.mono ?_
 rintro e w5 ⟨rfl, hb5⟩
 have HB5 := Lib.hid (HB4.out.trans (hb5.mono HB4.out.size))
 clear TM2 hb5
 go_wp2
 go_ret
 exact ⟨rfl, HB5.out⟩
end Go.Proofs.YtbjecnbcoadfbaaGreatDoor
namespace Go.Proofs.YtbjecnbcoadfbaaGreatDoor
open Go.RowKit
set_option maxHeartbeats 8000000 in
set_option maxRecDepth 100000 in
theorem checkErrors_any (i j : Nat) (hi : i ≤ 255) (hj : j ≤ 255) (w : World) (hT : TabOk w) :
 Calls Tryz.prog 3 #[.int .u8 (i : Int), .int .u8 (j : Int)] w fun e w' => e = .returned (.bool true) ∧ Below w.heap.size w w' := by
 have TA := Lib.hid (awakeE_any w hT)
 have HT := Lib.hid hT
 have hx : i % 8 < 8 := by omega
 have hy : j % 8 < 8 := by omega
 have HLAW := Lib.hid (law_all hx hy)
 clear hT
 go_enter Tryz.func3, Tryz.ntmps3
 go_wp2_with fail
 refine TA.out.mono ?_
 rintro e w1 ⟨rfl, hb1⟩
 have HB1 := Lib.hid hb1
 clear TA hb1
 go_wp2
 have hn2 := heap_alloc_new w1 (.cells #[strV flt0, strV flt1, strV flt2, strV flt3, strV flt4, strV flt5, strV flt6, strV flt7] 9)
 have hb2 := HB1.out.alloc HB1.out.size (.cells #[strV flt0, strV flt1, strV flt2, strV flt3, strV flt4, strV flt5, strV flt6, strV flt7] 9)
 generalize hW : World.alloc w1 _ = W2
 replace hn2 : W2.heap[w1.heap.size]? = some (.cells #[strV flt0, strV flt1, strV flt2, strV flt3, strV flt4, strV flt5, strV flt6, strV flt7] 9 (0, 0)) := hW ▸ hn2
 replace hb2 : Below w.heap.size w W2 := hW ▸ hb2
 clear hW
 have HN2 := Lib.hid hn2
 have HB2 := Lib.hid hb2
 clear hn2 hb2
 have hHeld : (fun _ : World => True) W2.drew := trivial
 refine wp_region_two (fun _ => True) 11 (by kernel_rfl) ?_
 refine tk 0 ?_ rfl (by kernel_rfl) (fun _ _ _ h => h) ‹_› (by rfl) ?_ ?_
 rotate_left
 · (intro w' hSw; (try dsimp only at hSw); go_simp; try with_reducible rfl)
 try simp only [Act.put, sA, sB, sC, sD, sE, sF]
 refine tk 1 ?_ rfl (by kernel_rfl) (fun _ _ _ h => h) ‹_› (by rfl) ?_ ?_
 rotate_left
 · (intro w' hSw; (try dsimp only at hSw); go_simp; try with_reducible rfl)
 try simp only [Act.put, sA, sB, sC, sD, sE, sF]
 refine tk 2 ?_ rfl (by kernel_rfl) (fun _ _ _ h => h) ‹_› (by rfl) ?_ ?_
 rotate_left
 · (intro w' hSw; (try dsimp only at hSw); go_simp; try with_reducible rfl)
 try simp only [Act.put, sA, sB, sC, sD, sE, sF]
 refine tk 3 ?_ rfl (by kernel_rfl) (fun _ _ _ h => h) ‹_› (by rfl) ?_ ?_
 rotate_left
 · (intro w' hSw; (try dsimp only at hSw); go_simp; try with_reducible rfl)
 try simp only [Act.put, sA, sB, sC, sD, sE, sF]
 refine tk 4 ?_ rfl (by kernel_rfl) (fun _ _ _ h => h) ‹_› (by rfl) ?_ ?_
 rotate_left
 · (intro w' hSw; (try dsimp only at hSw); go_simp; try with_reducible rfl)
 try simp only [Act.put, sA, sB, sC, sD, sE, sF]
 refine tk 5 ?_ rfl (by kernel_rfl) (fun _ _ _ h => h) ‹_› (by rfl) ?_ ?_
 rotate_left
 · (intro w' hSw; (try dsimp only at hSw); go_simp; try with_reducible rfl)
 try simp only [Act.put, sA, sB, sC, sD, sE, sF]
 refine tk 6 ?_ rfl (by kernel_rfl) (fun _ _ _ h => h) ‹_› (by rfl) ?_ ?_
 rotate_left
 · (intro w' hSw; (try dsimp only at hSw); go_simp; try with_reducible rfl)
 try simp only [Act.put, sA, sB, sC, sD, sE, sF]
 refine tk 7 ?_ rfl (by kernel_rfl) (fun _ _ _ h => h) ‹_› (by rfl) ?_ ?_
 rotate_left
 · (intro w' hSw; (try dsimp only at hSw); go_simp; try with_reducible rfl)
 try simp only [Act.put, sA, sB, sC, sD, sE, sF]
 refine tk 8 ?_ rfl (by kernel_rfl) (fun _ _ _ h => h) ‹_› (by rfl) ?_ ?_
 rotate_left
 · (intro w' hSw; (try dsimp only at hSw); go_simp; try with_reducible rfl)
 try simp only [Act.put, sA, sB, sC, sD, sE, sF]
 refine tk 9 ?_ rfl (by kernel_rfl) (fun _ _ _ h => h) ‹_› (by rfl) ?_ ?_
 rotate_left
 · (intro w' hSw; (try dsimp only at hSw); go_simp; try with_reducible rfl)
 try simp only [Act.put, sA, sB, sC, sD, sE, sF]
 refine tk 10 ?_ rfl (by kernel_rfl) (fun _ _ _ h => h) ‹_› (by rfl) ?_ ?_
 rotate_left
 · (intro w' hSw; (try dsimp only at hSw); go_simp; try with_reducible rfl)
 try simp only [Act.put, sA, sB, sC, sD, sE, sF]
 refine wpAnyT_tail (by kernel_rfl) ?_
 simp only [List.drop_succ_cons, List.drop_zero]
 have hwi : IntKind.i64.wrap (i : Int) = (i : Int) := IntWalk.i64_in _ (by omega)
 have hwj : IntKind.i64.wrap (j : Int) = (j : Int) := IntWalk.i64_in _ (by omega)
 have hti : (i : Int).tmod 8 = ((i % 8 : Nat) : Int) := by rw [Int.tmod_eq_emod_of_nonneg (by omega)]; omega
 have htj : (j : Int).tmod 8 = ((j % 8 : Nat) : Int) := by rw [Int.tmod_eq_emod_of_nonneg (by omega)]; omega
 rw [hwi, hwj, hti, htj]
 generalize i % 8 = x at HLAW hx ⊢
 generalize j % 8 = y at HLAW hy ⊢
 have hel : ∀ k, k < 8 → W2.cell? ⟨w1.heap.size, k, none⟩ = some (strV (flts.getD k [])) := fun k hk => by
  have h := cell_of_row W2 w1.heap.size k _ _ (0, 0) HN2.out
  rcases (show k = 0 ∨ k = 1 ∨ k = 2 ∨ k = 3 ∨ k = 4 ∨ k = 5 ∨ k = 6 ∨ k = 7 by omega) with rfl | rfl | rfl | rfl | rfl | rfl | rfl | rfl <;> exact h
 have hex := hel x hx
 have hey := hel y hy
 have hfl : ∀ k, k < 8 → (flts.getD k []).length ≤ 200 := fun k hk => by
  rcases (show k = 0 ∨ k = 1 ∨ k = 2 ∨ k = 3 ∨ k = 4 ∨ k = 5 ∨ k = 6 ∨ k = 7 by omega) with rfl | rfl | rfl | rfl | rfl | rfl | rfl | rfl <;> decide
 have hlx := hfl x hx
 have hly := hfl y hy
 have HTE := Lib.hid (show textE x y = txA ++ (flts.getD x [] ++ (txB ++ (flts.getD y [] ++ txC))) from rfl)
 generalize flts.getD x [] = fx at hex hlx HTE
 generalize flts.getD y [] = fy at hey hly HTE
 have hHeld2 : (fun w' : World => w'.cell? ⟨w1.heap.size, x, none⟩ = some (strV fx) ∧ w'.cell? ⟨w1.heap.size, y, none⟩ = some (strV fy)) W2.drew.drew := ⟨hex, hey⟩
 have hb1 : ¬ 9223372036854775807 < 11 + fx.length := by omega
 have hb2 : ¬ 9223372036854775807 < 11 + fx.length + 14 := by omega
 have hb3 : ¬ 9223372036854775807 < 11 + fx.length + 14 + fy.length := by omega
 have hb4 : ¬ 9223372036854775807 < 11 + fx.length + 14 + fy.length + 48 := by omega
 have hxi : (x : Int) < 8 := by omega
 have hyi : (y : Int) < 8 := by omega
 clear hwi hwj hti htj hel hHeld hfl hex hey
 go_wp2
 refine wp_region_two (fun w' : World => w'.cell? ⟨w1.heap.size, x, none⟩ = some (strV fx) ∧ w'.cell? ⟨w1.heap.size, y, none⟩ = some (strV fy)) 12 (by kernel_rfl) ?_
 refine tk 0 ?_ rfl (by kernel_rfl) (fun _ _ _ h => h) ‹_› (by rfl) ?_ ?_
 rotate_left
 · (intro w' hSw; (try dsimp only at hSw); go_simp; try with_reducible rfl)
 try simp only [Act.put, sA, sB, sC, sD, sE, sF]
 refine tk 1 ?_ rfl (by kernel_rfl) (fun _ _ _ h => h) ‹_› (by rfl) ?_ ?_
 rotate_left
 · (intro w' hSw; (try dsimp only at hSw); go_simp; try with_reducible rfl)
 try simp only [Act.put, sA, sB, sC, sD, sE, sF]
 refine tk 2 ?_ rfl (by kernel_rfl) (fun _ _ _ h => h) ‹_› (by rfl) ?_ ?_
 rotate_left
 · (intro w' hSw; (try dsimp only at hSw); go_simp; try with_reducible rfl)
 try simp only [Act.put, sA, sB, sC, sD, sE, sF]
 refine tk 3 ?_ rfl (by kernel_rfl) (fun _ _ _ h => h) ‹_› (by rfl) ?_ ?_
 rotate_left
 · (intro w' hSw; (try dsimp only at hSw); go_simp; try with_reducible rfl)
 try simp only [Act.put, sA, sB, sC, sD, sE, sF]
 refine tk 4 ?_ rfl (by kernel_rfl) (fun _ _ _ h => h) ‹_› (by rfl) ?_ ?_
 rotate_left
 · (intro w' hSw; (try dsimp only at hSw); go_simp; try with_reducible rfl)
 try simp only [Act.put, sA, sB, sC, sD, sE, sF]
 refine tk 5 ?_ rfl (by kernel_rfl) (fun _ _ _ h => h) ‹_› (by rfl) ?_ ?_
 rotate_left
 · (intro w' hSw; (try dsimp only at hSw); go_simp; try with_reducible rfl)
 try simp only [Act.put, sA, sB, sC, sD, sE, sF]
 refine tk 6 ?_ rfl (by kernel_rfl) (fun _ _ _ h => h) ‹_› (by rfl) ?_ ?_
 rotate_left
 · (intro w' hSw; (try dsimp only at hSw); go_simp; try with_reducible rfl)
 try simp only [Act.put, sA, sB, sC, sD, sE, sF]
 refine tk 7 ?_ rfl (by kernel_rfl) (fun _ _ _ h => h) ‹_› (by rfl) ?_ ?_
 rotate_left
 · (intro w' hSw; (try dsimp only at hSw); go_simp; try with_reducible rfl)
 try simp only [Act.put, sA, sB, sC, sD, sE, sF]
 refine tk 8 ?_ rfl (by kernel_rfl) (fun _ _ _ h => h) ‹_› (by rfl) ?_ ?_
 rotate_left
 · (intro w' hSw; (try dsimp only at hSw); go_simp; try with_reducible rfl)
 try simp only [Act.put, sA, sB, sC, sD, sE, sF]
 refine tk 9 ?_ rfl (by kernel_rfl) (fun _ _ _ h => h) ‹_› (by rfl) ?_ ?_
 rotate_left
 · (intro w' hSw; (try dsimp only at hSw); go_simp; try with_reducible rfl)
 try simp only [Act.put, sA, sB, sC, sD, sE, sF]
 refine tk 10 ?_ rfl (by kernel_rfl) (fun _ _ _ h => h) ‹_› (by rfl) ?_ ?_
 rotate_left
 · (intro w' hSw; (try dsimp only at hSw); go_simp; try with_reducible rfl)
 try simp only [Act.put, sA, sB, sC, sD, sE, sF]
 refine tk 11 ?_ rfl (by kernel_rfl) (fun _ _ _ h => h) ‹_› (by rfl) ?_ ?_
 rotate_left
 · (intro w' hSw; (try dsimp only at hSw); go_simp; try with_reducible rfl)
 try simp only [Act.put, sA, sB, sC, sD, sE, sF]
 refine wpAnyT_tail (by kernel_rfl) ?_
 simp only [List.drop_succ_cons, List.drop_zero]
 have hstr : ((⟨#[109, 111, 100, 117, 108, 101, 32, 109, 32, 123, 32]⟩ : ByteArray) ++ ⟨fx.toArray⟩ ++ ⟨txB.toArray⟩ ++ ⟨fy.toArray⟩ ++ ⟨txC.toArray⟩) = ⟨(textE x y).toArray⟩ := by
  rw [HTE.out]
  apply ByteArray.ext
  simp [ByteArray.data_append]
 have HSTR := Lib.hid hstr
 have HBW := Lib.hid HB2.out.drew.drew
 have HTW := Lib.hid (HT.out.block (HBW.out.block _ HT.out.lt))
 clear hHeld2 hb1 hb2 hb3 hb4 hstr
 go_wp2_with fail
 rw [show ((⟨#[109, 111, 100, 117, 108, 101, 32, 109, 32, 123, 32]⟩ : ByteArray) ++ ⟨fx.toArray⟩ ++ ⟨#[32, 125, 32, 109, 111, 100, 117, 108, 101, 32, 110, 32, 123, 32]⟩ ++ ⟨fy.toArray⟩ ++ ⟨txC.toArray⟩) = ⟨(textE x y).toArray⟩ from HSTR.out]
 have hlaw := HLAW.out
 unfold lawB at hlaw
 have he1 : errNo 1 = 10 := rfl
 have he2 : errNo 2 = 9 := rfl
 by_cases hxy : x = 0 ∨ y = 0
 ·
  rw [if_pos (by simpa using hxy)] at hlaw
  refine (fail_any (by decide) hlaw _ HTW.out).mono ?_
  rintro e w3 ⟨rfl, hb3⟩
  have HB3 := Lib.hid (HBW.out.trans (hb3.mono HBW.out.size))
  have hq : ((x : Int) == 0) = true ∨ (((x : Int) == 0) = false ∧ ((y : Int) == 0) = true) := by
   by_cases h : x = 0
   ·
    exact .inl (by simp [h])
   ·
    exact .inr ⟨by simp; omega, by simp; omega⟩
  rw [he1]
  clear hb3 hlaw hxy
  rcases hq with hq | ⟨hq, hq2⟩ <;>
  ·
   go_wp2
   go_ret
   exact ⟨rfl, HB3.out⟩
 ·
  rw [if_neg (by simpa using hxy)] at hlaw
  have hx0 : ((x : Int) == 0) = false := by simp; omega
  have hy0 : ((y : Int) == 0) = false := by simp; omega
  rw [Bool.or_eq_true, Bool.and_eq_true, Bool.and_eq_true] at hlaw
  rcases hlaw with ⟨hf, hy26⟩ | ⟨hg, hy26⟩
  ·
   refine (fail_any (by decide) hf _ HTW.out).mono ?_
   rintro e w3 ⟨rfl, hb3⟩
   have HB3 := Lib.hid (HBW.out.trans (hb3.mono HBW.out.size))
   have hq : ((y : Int) == 2) = true ∨ (((y : Int) == 2) = false ∧ ((y : Int) == 6) = true) := by
    by_cases h : y = 2
    ·
     exact .inl (by simp [h])
    ·
     have : y = 6 := by simpa [h] using hy26
     exact .inr ⟨by simp; omega, by simp [this]⟩
   rw [he2]
   clear hb3 hf hy26 hxy
   rcases hq with hq | ⟨hq, hq2⟩ <;>
   ·
    go_wp2
    go_ret
    exact ⟨rfl, HB3.out⟩
  ·
   refine (good_any hg _ HTW.out).mono ?_
   rintro e w3 ⟨ab, M, rfl, hAr, hmn, hb3, hR⟩
   have HB3 := Lib.hid (HBW.out.trans (hb3.mono HBW.out.size))
   by_cases h26 : y = 2 ∨ y = 6
   ·
    have hxs : x = y ∨ x = 2 ∨ x = 6 := by
     rcases h26 with rfl | rfl <;> simpa [or_assoc] using hy26
    have hq : ((y : Int) == 2) = true ∨ (((y : Int) == 2) = false ∧ ((y : Int) == 6) = true) := by
     by_cases h : y = 2
     ·
      exact .inl (by simp [h])
     ·
      exact .inr ⟨by simp; omega, by simp; omega⟩
    have hr : ((x : Int) == (y : Int)) = true ∨ (((x : Int) == (y : Int)) = false ∧ ((x : Int) == 2) = true) ∨ (((x : Int) == (y : Int)) = false ∧ ((x : Int) == 2) = false ∧ ((x : Int) == 6) = true) := by
     by_cases h : x = y
     ·
      exact .inl (by simp [h])
     ·
      by_cases h2 : x = 2
      ·
       exact .inr (.inl ⟨by simp; omega, by simp [h2]⟩)
      ·
       exact .inr (.inr ⟨by simp; omega, by simp; omega, by simp; omega⟩)
    clear hy26 hxs h26 hxy hmn hb3 hR hAr hg
    rcases hq with hq | ⟨hq, hq2⟩ <;> rcases hr with hr | ⟨hr, hr2⟩ | ⟨hr, hr2, hr3⟩ <;>
    ·
     go_wp2
     go_ret
     exact ⟨rfl, HB3.out⟩
   ·
    have hy2 : ((y : Int) == 2) = false := by simp; omega
    have hy6 : ((y : Int) == 6) = false := by simp; omega
    have TR := hR w3 hAr (HT.out.block (HB3.out.block _ HT.out.lt))
    have h77 : (((x : Int) == 7) = true ∧ ((y : Int) == 7) = true ∧ (if (x == 7 && y == 7) = true then 0 else 11) = 0) ∨ (((x : Int) == 7) = false ∧ (if (x == 7 && y == 7) = true then 0 else 11) = 11) ∨ (((x : Int) == 7) = true ∧ ((y : Int) == 7) = false ∧ (if (x == 7 && y == 7) = true then 0 else 11) = 11) := by
     by_cases h : x = 7
     ·
      by_cases h2 : y = 7
      ·
       exact .inl ⟨by simp [h], by simp [h2], by simp [h, h2]⟩
      ·
       exact .inr (.inr ⟨by simp [h], by simp; omega, by simp [h2]⟩)
     ·
      exact .inr (.inl ⟨by simp; omega, by simp [h]⟩)
    generalize (if (x == 7 && y == 7) = true then 0 else 11) = want at TR hg hR h77
    clear hy26 h26 hxy hmn hb3 hR hAr hg
    rcases h77 with ⟨h7, h7', rfl⟩ | ⟨h7, rfl⟩ | ⟨h7, h7', rfl⟩ <;>
    ·
     have HTR := Lib.hid TR
     clear TR
     go_wp2_with fail
     refine HTR.out.mono ?_
     rintro e w4 ⟨rfl, hb4⟩
     have HB4 := Lib.hid (HB3.out.trans (hb4.mono HB3.out.size))
     clear hb4 HTR
     go_wp2
     go_ret
     exact ⟨rfl, HB4.out⟩
end Go.Proofs.YtbjecnbcoadfbaaGreatDoor
