/-
  Part of a proof of RunLoops: contracts of functions that the claim reaches, and plain lemmas.
-/
import Derived.OrdersHeld
import Derived.StillTail
import Derived.WalkKit
import Derived.Deep.RegionHeld
set_option linter.all false
namespace Go.Proofs.YtoelmnamlnbdhaaGreatDoor
open Go
section
variable {P : Program} {ops : Array Oper} {Q : Exit → Act → World → Prop} {md : Region.Mode} {S : World → Prop} {n : Nat}
def wpAnyT (P : Program) (md : Region.Mode) (ops : Array Oper) (Q : Exit → Act → World → Prop) (S : World → Prop) (n : Nat) : Nat → Array Bool → Act → World → Prop
 | 0, listed, a, w => Region.ready md ops listed = [] ∧ Q .normal a w
 | fuel + 1, listed, a, w =>
   (Region.ready md ops listed = [] → Q .normal a w) ∧
   ∀ i ∈ Region.ready md ops listed, wpOp P ops Q i (fun a' w' => (i < n → S w') ∧ wpAnyT P md ops Q S n fuel (listed.setIfInBounds i true) a' w') a w
theorem wpAny_of_T : ∀ (fuel : Nat) (listed : Array Bool) (a : Act) (w : World), wpAnyT P md ops Q S n fuel listed a w → wpAny P md ops Q fuel listed a w
 | 0, _, _, _, h => h
 | fuel + 1, _, _, _, h => ⟨h.1, fun i hi => wpOp_mono (fun a' w' h' => wpAny_of_T fuel _ a' w' h'.2) (h.2 i hi)⟩
def Waits (md : Region.Mode) (ops : Array Oper) (n : Nat) : Prop := Region.sinkB md ops n = true ∧ Region.chainB md ops n = true ∧ n < ops.size
theorem wpAnyT_first (hW : Waits md ops n) {i : Nat} {oi : Oper} {v : Value} (hin : i < n) (hi : ops[i]? = some oi) (hsel : ∀ (j : Nat) (o : Oper) cs b, ops[j]? = some o → o.op ≠ .select cs b)
 (hQ : ∀ c a w, Q (.panic c) (a.put oi.dst v) w → Q (.panic c) a w) :
 ∀ (fuel : Nat) (listed : Array Bool) (a : Act) (w : World), HeadInv md ops n listed →
   (∀ j oj, ops[j]? = some oj → j ≠ i → listed.getD j true = false → (∀ e ∈ oj.after, Region.binds md e = true → e.on ≠ i) → oi.apart ops oj = true) →
   i ∈ Region.ready md ops listed → YieldsIf P ops S oi v a → S w →
   wpAnyT P md ops Q S n fuel (listed.setIfInBounds i true) (a.put oi.dst v) w → wpAnyT P md ops Q S n (fuel + 1) listed a w := by
 intro fuel
 induction fuel with
 | zero =>
   intro listed a w _ _ hr hy hS H
   refine ⟨fun h => (by rw [h] at hr; cases hr), fun j hj => ?_⟩
   by_cases hji : j = i
   ·
    subst hji; exact hy.wpOp hi hS ⟨fun _ => hS, H⟩
   ·
    have := ready_mono hj hji
    rw [H.1] at this
    cases this
 | succ fuel ih =>
   intro listed a w inv hfree hr hy hS H
   refine ⟨fun h => (by rw [h] at hr; cases hr), fun j hj => ?_⟩
   by_cases hji : j = i
   ·
    subst hji; exact hy.wpOp hi hS ⟨fun _ => hS, H⟩
   ·
    have h1 := H.2 j (ready_mono hj hji)
    obtain ⟨hjun, oj, hoj, hall⟩ := mem_ready.1 hj
    have hiun := (mem_ready.1 hr).1
    have hjn : j < n := by
     rcases Nat.lt_or_ge j n with h | h
     ·
      exact h
     ·
      exact absurd hj (tail_waits hW.1 hW.2.1 hW.2.2 inv _ i rfl hin hiun j h)
    have hnot : ∀ e ∈ oj.after, Region.binds md e = true → e.on ≠ i := fun e he hb heq => by
     have h1 := hall e he hb
     rw [heq, getD_both hiun] at h1
     cases h1
    have h2 := wpOp_putIf hoj (hfree j oj hoj hji hjun hnot) (fun cs b => hsel i oi cs b hi) (fun cs b => hsel j oj cs b hoj) hQ hy h1
    have hfree' : ∀ k ok, ops[k]? = some ok → k ≠ i → (listed.setIfInBounds j true).getD k true = false →
     (∀ e ∈ ok.after, Region.binds md e = true → e.on ≠ i) → oi.apart ops ok = true := fun k ok hk hki hun hno => by
     refine hfree k ok hk hki ?_ hno
     by_cases hjk : j = k
     ·
      subst hjk; exact hjun
     ·
      rw [getD_set_ne true hjk] at hun; exact hun
    refine wpOp_mono (fun a' w' h3 => ⟨h3.2.1, ih (listed.setIfInBounds j true) a' w' (inv.set hj hjn) hfree' (ready_mono hr (Ne.symm hji)) h3.1 (h3.2.1 hjn) ?_⟩) h2
    rw [Array.setIfInBounds_comm _ _ hji]
    exact h3.2.2
def closedB (md : Region.Mode) (ops : Array Oper) (n : Nat) (listed : Array Bool) : Bool :=
 listed.size == ops.size && ((List.range ops.size).all fun j => !listed.getD j false || match ops[j]? with
  | some oj => oj.after.all fun e => !Region.binds md e || listed.getD e.on false
  | none => true) && (List.range ops.size).all fun t => decide (t < n) || !listed.getD t true
theorem closedB_spec {listed : Array Bool} (h : closedB md ops n listed = true) : HeadInv md ops n listed := by
 simp only [closedB, Bool.and_eq_true, beq_iff_eq, List.all_eq_true, List.mem_range, Bool.or_eq_true, Bool.not_eq_true', decide_eq_true_eq] at h
 obtain ⟨⟨h1, h2⟩, h3⟩ := h
 refine ⟨h1, fun j oj hj hl e he hb => ?_, fun t ht ht' => ?_⟩
 ·
  have hlt : j < ops.size := (Array.getElem?_eq_some_iff.1 hj).1
  rcases h2 j hlt with h | h
  ·
   rw [h] at hl; cases hl
  ·
   rw [hj] at h
   have := Array.all_eq_true_iff_forall_mem.1 h e he
   simp only [Bool.or_eq_true, Bool.not_eq_true', hb] at this
   rcases this with h | h
   ·
    cases h
   ·
    exact h
 ·
  rcases h3 t ht' with h | h
  ·
   omega
  ·
   exact h
def waitsB (md : Region.Mode) (ops : Array Oper) (n : Nat) : Bool := Region.noSelect ops && Region.sinkB md ops n && Region.chainB md ops n && decide (n < ops.size)
theorem wpAnyT_take {i : Nat} {oi : Oper} {v : Value} {fuel : Nat} {listed : Array Bool} {a : Act} {w : World} (hi : ops[i]? = some oi)
 (hB : (waitsB md ops n && closedB md ops n listed && Region.free md ops listed i && (Region.ready md ops listed).contains i && decide (i < n)) = true)
 (hQ : ∀ c a w, Q (.panic c) (a.put oi.dst v) w → Q (.panic c) a w) (hS : S w) (hy : YieldsIf P ops S oi v a)
 (h : wpAnyT P md ops Q S n fuel (listed.setIfInBounds i true) (a.put oi.dst v) w) : wpAnyT P md ops Q S n (fuel + 1) listed a w := by
 simp only [Bool.and_eq_true, decide_eq_true_eq, waitsB] at hB
 obtain ⟨⟨⟨⟨⟨⟨⟨b1, b2⟩, b3⟩, b4⟩, b5⟩, b6⟩, b7⟩, b8⟩ := hB
 exact wpAnyT_first ⟨b2, b3, b4⟩ b8 hi (Region.noSelect_spec b1) hQ fuel listed a w (closedB_spec b5) (Region.free_spec hi b6) (by simpa using b7) hy hS h
def sinkX (md : Region.Mode) (ops : Array Oper) (n : Nat) (ex : List Nat) : Bool :=
 (List.range n).all fun i => ex.contains i || (List.range (n + 1)).any fun j => decide (i < j) && Region.waitsFor md ops j i
structure InvX (md : Region.Mode) (ops : Array Oper) (n : Nat) (ex : List Nat) (listed : Array Bool) : Prop where
 inv : HeadInv md ops n listed
 ex : ∀ i ∈ ex, listed.getD i false = true
theorem InvX.set {n i : Nat} {ex : List Nat} {listed : Array Bool} (h : InvX md ops n ex listed) (hi : i ∈ Region.ready md ops listed) (hin : i < n) : InvX md ops n ex (listed.setIfInBounds i true) :=
 ⟨h.inv.set hi hin, fun j hj => getD_set_true (h.ex j hj)⟩
theorem tail_waitsX {n : Nat} {ex : List Nat} {listed : Array Bool} (hs : sinkX md ops n ex = true) (hc : Region.chainB md ops n = true) (hn : n < ops.size) (invX : InvX md ops n ex listed) :
 ∀ (d i : Nat), n - i = d → i < n → listed.getD i true = false → ∀ t, n ≤ t → t ∉ Region.ready md ops listed := by
 have inv := invX.inv
 intro d
 induction d using Nat.strongRecOn with
 | _ d ih =>
   intro i hd hi hun t ht hr
   obtain ⟨_, ot, hot, hall⟩ := mem_ready.1 hr
   have htlt : t < ops.size := (Array.getElem?_eq_some_iff.1 hot).1
   by_cases htn : t = n
   ·
    subst htn
    have h1 := List.all_eq_true.1 hs i (List.mem_range.2 hi)
    simp only [Bool.or_eq_true] at h1
    rcases h1 with h1 | h1
    ·
     have h2 := invX.ex i (by simpa using h1)
     rw [getD_both hun] at h2
     cases h2
    obtain ⟨j, hj, hj2⟩ := List.any_eq_true.1 h1
    simp only [Bool.and_eq_true, decide_eq_true_eq] at hj2
    obtain ⟨oj, hoj, e, he, hb, hon⟩ := Region.waitsFor_spec hj2.2
    have hjle : j ≤ t := by have := List.mem_range.1 hj; omega
    by_cases hjt : j = t
    ·
     subst hjt
     have : oj = ot := Option.some.inj (hoj.symm.trans hot)
     subst this
     have h2 := hall e he hb
     rw [hon, getD_both hun] at h2
     cases h2
    ·
     cases hl : listed.getD j false with
     | true =>
       have h2 := inv.closed j oj hoj hl e he hb
       rw [hon, getD_both hun] at h2
       cases h2
     | false =>
       have hjs : j < listed.size := by rw [inv.size]; omega
       exact ih (t - j) (by omega) j rfl (by omega) (getD_in hjs hl) t (Nat.le_refl _) hr
   ·
    have h1 := List.all_eq_true.1 hc t (List.mem_range.2 htlt)
    simp only [Bool.or_eq_true, decide_eq_true_eq] at h1
    rcases h1 with h1 | h1
    ·
     omega
    ·
     obtain ⟨o', ho', e, he, hb, hon⟩ := Region.waitsFor_spec h1
     have : o' = ot := Option.some.inj (ho'.symm.trans hot)
     subst this
     have h2 := hall e he hb
     rw [hon, getD_both (inv.tail (t - 1) (by omega) (by omega))] at h2
     cases h2
theorem wpAnyT_firstX {ex : List Nat} (hW : sinkX md ops n ex = true ∧ Region.chainB md ops n = true ∧ n < ops.size) {i : Nat} {oi : Oper} {v : Value} (hin : i < n) (hi : ops[i]? = some oi) (hsel : ∀ (j : Nat) (o : Oper) cs b, ops[j]? = some o → o.op ≠ .select cs b)
 (hQ : ∀ c a w, Q (.panic c) (a.put oi.dst v) w → Q (.panic c) a w) :
 ∀ (fuel : Nat) (listed : Array Bool) (a : Act) (w : World), InvX md ops n ex listed →
   (∀ j oj, ops[j]? = some oj → j ≠ i → listed.getD j true = false → (∀ e ∈ oj.after, Region.binds md e = true → e.on ≠ i) → oi.apart ops oj = true) →
   i ∈ Region.ready md ops listed → YieldsIf P ops S oi v a → S w →
   wpAnyT P md ops Q S n fuel (listed.setIfInBounds i true) (a.put oi.dst v) w → wpAnyT P md ops Q S n (fuel + 1) listed a w := by
 intro fuel
 induction fuel with
 | zero =>
   intro listed a w _ _ hr hy hS H
   refine ⟨fun h => (by rw [h] at hr; cases hr), fun j hj => ?_⟩
   by_cases hji : j = i
   ·
    subst hji; exact hy.wpOp hi hS ⟨fun _ => hS, H⟩
   ·
    have := ready_mono hj hji
    rw [H.1] at this
    cases this
 | succ fuel ih =>
   intro listed a w inv hfree hr hy hS H
   refine ⟨fun h => (by rw [h] at hr; cases hr), fun j hj => ?_⟩
   by_cases hji : j = i
   ·
    subst hji; exact hy.wpOp hi hS ⟨fun _ => hS, H⟩
   ·
    have h1 := H.2 j (ready_mono hj hji)
    obtain ⟨hjun, oj, hoj, hall⟩ := mem_ready.1 hj
    have hiun := (mem_ready.1 hr).1
    have hjn : j < n := by
     rcases Nat.lt_or_ge j n with h | h
     ·
      exact h
     ·
      exact absurd hj (tail_waitsX hW.1 hW.2.1 hW.2.2 inv _ i rfl hin hiun j h)
    have hnot : ∀ e ∈ oj.after, Region.binds md e = true → e.on ≠ i := fun e he hb heq => by
     have h1 := hall e he hb
     rw [heq, getD_both hiun] at h1
     cases h1
    have h2 := wpOp_putIf hoj (hfree j oj hoj hji hjun hnot) (fun cs b => hsel i oi cs b hi) (fun cs b => hsel j oj cs b hoj) hQ hy h1
    have hfree' : ∀ k ok, ops[k]? = some ok → k ≠ i → (listed.setIfInBounds j true).getD k true = false →
     (∀ e ∈ ok.after, Region.binds md e = true → e.on ≠ i) → oi.apart ops ok = true := fun k ok hk hki hun hno => by
     refine hfree k ok hk hki ?_ hno
     by_cases hjk : j = k
     ·
      subst hjk; exact hjun
     ·
      rw [getD_set_ne true hjk] at hun; exact hun
    refine wpOp_mono (fun a' w' h3 => ⟨h3.2.1, ih (listed.setIfInBounds j true) a' w' (inv.set hj hjn) hfree' (ready_mono hr (Ne.symm hji)) h3.1 (h3.2.1 hjn) ?_⟩) h2
    rw [Array.setIfInBounds_comm _ _ hji]
    exact h3.2.2
theorem wpAnyT_takeX {i : Nat} {oi : Oper} {v : Value} {fuel : Nat} {listed : Array Bool} {a : Act} {w : World} (ex : List Nat) (hi : ops[i]? = some oi)
 (hB : (Region.noSelect ops && sinkX md ops n ex && Region.chainB md ops n && decide (n < ops.size) && (ex.all fun i => listed.getD i false) && closedB md ops n listed && Region.free md ops listed i && (Region.ready md ops listed).contains i && decide (i < n)) = true)
 (hQ : ∀ c a w, Q (.panic c) (a.put oi.dst v) w → Q (.panic c) a w) (hS : S w) (hy : YieldsIf P ops S oi v a)
 (h : wpAnyT P md ops Q S n fuel (listed.setIfInBounds i true) (a.put oi.dst v) w) : wpAnyT P md ops Q S n (fuel + 1) listed a w := by
 simp only [Bool.and_eq_true, decide_eq_true_eq] at hB
 obtain ⟨⟨⟨⟨⟨⟨⟨⟨b1, b2⟩, b3⟩, b4⟩, b9⟩, b5⟩, b6⟩, b7⟩, b8⟩ := hB
 exact wpAnyT_firstX (ex := ex) ⟨b2, b3, b4⟩ b8 hi (Region.noSelect_spec b1) hQ fuel listed a w ⟨closedB_spec b5, fun i hi => List.all_eq_true.1 b9 i hi⟩ (Region.free_spec hi b6) (by simpa using b7) hy hS h
theorem wpAnyT_one {i : Nat} {o : Oper} {fuel : Nat} {listed : Array Bool} {a : Act} {w : World} (ho : ops[i]? = some o) (hr : Region.ready md ops listed = [i])
 (h : ∀ K' : Act → World → Prop, Shut (∀ a w, S w → (S w → wpAnyT P md ops Q S n fuel (listed.setIfInBounds i true) a w) → K' a w) → if Region.wanted o (yielded ops a.tmps) = true then Oper.wp P o a w K' Q else K' (a.put o.dst undef) w) :
 wpAnyT P md ops Q S n (fuel + 1) listed a w := by
 refine ⟨fun h0 => (by rw [h0] at hr; cases hr), fun j hj => ?_⟩
 rw [hr] at hj
 have : j = i := by simpa using hj
 subst this
 exact wpOp_step ho (fun K' hK => h K' (fun a w hS hW => hK a w ⟨fun _ => hS, hW hS⟩))
theorem wpAnyT_two {i j : Nat} {oi oj : Oper} {fuel : Nat} {listed : Array Bool} {a : Act} {w : World} (hi : ops[i]? = some oi) (hj : ops[j]? = some oj) (hr : Region.ready md ops listed = [i, j])
 (h1 : ∀ K' : Act → World → Prop, Shut (∀ a w, S w → (S w → wpAnyT P md ops Q S n fuel (listed.setIfInBounds i true) a w) → K' a w) → if Region.wanted oi (yielded ops a.tmps) = true then Oper.wp P oi a w K' Q else K' (a.put oi.dst undef) w)
 (h2 : ∀ K' : Act → World → Prop, Shut (∀ a w, S w → (S w → wpAnyT P md ops Q S n fuel (listed.setIfInBounds j true) a w) → K' a w) → if Region.wanted oj (yielded ops a.tmps) = true then Oper.wp P oj a w K' Q else K' (a.put oj.dst undef) w) :
 wpAnyT P md ops Q S n (fuel + 1) listed a w := by
 refine ⟨fun h0 => (by rw [h0] at hr; cases hr), fun k hk => ?_⟩
 rw [hr] at hk
 rcases List.mem_cons.1 hk with rfl | hk
 ·
  exact wpOp_step hi (fun K' hK => h1 K' (fun a w hS hW => hK a w ⟨fun _ => hS, hW hS⟩))
 ·
  have : k = j := by simpa using hk
  subst this
  exact wpOp_step hj (fun K' hK => h2 K' (fun a w hS hW => hK a w ⟨fun _ => hS, hW hS⟩))
theorem wpAnyT_of_any : ∀ (fuel : Nat) (listed : Array Bool) (a : Act) (w : World), (∀ i, listed.getD i true = false → n ≤ i) → wpAny P md ops Q fuel listed a w → wpAnyT P md ops Q S n fuel listed a w
 | 0, _, _, _, _, h => h
 | fuel + 1, listed, a, w, hn, h => ⟨h.1, fun i hi => wpOp_mono (fun a' w' h' => ⟨fun hin => absurd hin (by have := hn i (mem_ready.1 hi).1; omega), wpAnyT_of_any fuel _ a' w' (fun j hj => by
  by_cases hij : i = j
  ·
   subst hij; exact hn i (mem_ready.1 hi).1
  ·
   exact hn j (by rw [getD_set_ne true hij] at hj; exact hj)) h'⟩) (h.2 i hi)⟩
theorem wpAnyT_tail {l : List Oper} {listed : Array Bool} {a : Act} {w : World} (hB : ((List.range l.length).all (fun i => decide (n ≤ i) || listed.getD i true) && listed.size == l.length && Region.seqB md l.toArray (l.drop n).length n listed) = true)
 (h : wpList P l.toArray Q (l.drop n) a w) : wpAnyT P md l.toArray Q S n (l.drop n).length listed a w := by
 simp only [Bool.and_eq_true, List.all_eq_true, List.mem_range, Bool.or_eq_true, decide_eq_true_eq, beq_iff_eq] at hB
 obtain ⟨⟨h1, h3⟩, h2⟩ := hB
 refine wpAnyT_of_any _ _ _ _ (fun i hi => ?_) (wpAny_of_seq (l.drop n) n listed a w (fun j => by simp [List.getElem?_drop]) h2 h)
 have hlt : i < listed.size := by
  rcases Nat.lt_or_ge i listed.size with h' | h'
  ·
   exact h'
  ·
   simp [Array.getElem?_eq_none h'] at hi
 rcases h1 i (by omega) with h | h
 ·
  exact h
 ·
  rw [h] at hi; cases hi
theorem wp_region_two {id : Nat} {a : Act} {w : World} (S : World → Prop) (n : Nat) (hm : P.follows .mixedOrders = true)
 (h : wpAnyT P .any ops Q S n ops.size (Array.replicate ops.size false) a w.drew) : (Code.region id ops true).wp P Q a w :=
 wp_region_any hm (wpAny_of_T _ _ _ _ h)
end
end Go.Proofs.YtoelmnamlnbdhaaGreatDoor
namespace Go.Proofs.YtoelmnamlnbdhaaGreatDoor
open Go
section
variable {P : Program} {ops : Array Oper} {Q : Exit → Act → World → Prop} {md : Region.Mode} {S : World → Prop} {n : Nat}
theorem tk (i : Nat) (v : Value) {oi : Oper} {fuel : Nat} {listed : Array Bool} {a : Act} {w : World} (hi : ops[i]? = some oi)
  (hB : (waitsB md ops n && closedB md ops n listed && Region.free md ops listed i && (Region.ready md ops listed).contains i && decide (i < n)) = true)
  (hQ : ∀ c a w, Q (.panic c) (a.put oi.dst v) w → Q (.panic c) a w) (hS : S w) (hw : Region.wanted oi (yielded ops a.tmps) = true) (hy : ∀ w, S w → (execOp a.eval oi).run P w = .ok (.value v) w)
  (h : wpAnyT P md ops Q S n fuel (listed.setIfInBounds i true) (a.put oi.dst v) w) : wpAnyT P md ops Q S n (fuel + 1) listed a w :=
  wpAnyT_take hi hB hQ hS (.inl ⟨hw, hy⟩) h
theorem tx (ex : List Nat) (i : Nat) (v : Value) {oi : Oper} {fuel : Nat} {listed : Array Bool} {a : Act} {w : World} (hi : ops[i]? = some oi)
  (hB : (Region.noSelect ops && sinkX md ops n ex && Region.chainB md ops n && decide (n < ops.size) && (ex.all fun i => listed.getD i false) && closedB md ops n listed && Region.free md ops listed i && (Region.ready md ops listed).contains i && decide (i < n)) = true)
  (hQ : ∀ c a w, Q (.panic c) (a.put oi.dst v) w → Q (.panic c) a w) (hS : S w) (hw : Region.wanted oi (yielded ops a.tmps) = true) (hy : ∀ w, S w → (execOp a.eval oi).run P w = .ok (.value v) w)
  (h : wpAnyT P md ops Q S n fuel (listed.setIfInBounds i true) (a.put oi.dst v) w) : wpAnyT P md ops Q S n (fuel + 1) listed a w :=
  wpAnyT_takeX ex hi hB hQ hS (.inl ⟨hw, hy⟩) h
end
theorem sA {α : Type} (l : List α) (i : Nat) (a : α) : l.toArray.setIfInBounds i a = (l.set i a).toArray := List.setIfInBounds_toArray ..
theorem sB {α : Type} (x : α) (l : List α) (a : α) : (x :: l).set 0 a = a :: l := List.set_cons_zero
theorem sC {α : Type} (x : α) (l : List α) (n : Nat) (a : α) : (x :: l).set (n + 1) a = x :: l.set n a := List.set_cons_succ
theorem sD {α : Type} {xs : List α} {i : Nat} (h : i < xs.toArray.size) : xs.toArray[i] = xs[i]'(by simpa using h) := List.getElem_toArray h
theorem sE {α : Type} (a : α) (l : List α) (i : Nat) (h : i + 1 < (a :: l).length) : (a :: l)[i + 1] = l[i]'(Nat.lt_of_succ_lt_succ h) := List.getElem_cons_succ ..
theorem sF {α : Type} (a : α) (l : List α) (h : 0 < (a :: l).length) : (a :: l)[0] = a := List.getElem_cons_zero ..
section
variable {P : Program} {ops : Array Oper} {Q : Exit → Act → World → Prop} {md : Region.Mode} {S : World → Prop} {n : Nat}
theorem tz (i : Nat) (v : Value) (a' : Act) (l' : Array Bool) {oi : Oper} {fuel : Nat} {listed : Array Bool} {a : Act} {w : World} (h : wpAnyT P md ops Q S n fuel l' a' w)
  (hi : ops[i]? = some oi := by rfl) (hB : (waitsB md ops n && closedB md ops n listed && Region.free md ops listed i && (Region.ready md ops listed).contains i && decide (i < n)) = true := by kernel_rfl)
  (hS : S w := by assumption) (hw : Region.wanted oi (yielded ops a.tmps) = true := by rfl)
  (hy : ∀ w, S w → (execOp a.eval oi).run P w = .ok (.value v) w := by intro w' hSw; (try dsimp only at hSw); go_simp; try with_reducible rfl)
  (ha : a.put oi.dst v = a' := by (try simp only [Act.put, sA, sB, sC, sD, sE, sF]); rfl) (hl : listed.setIfInBounds i true = l' := by (try simp only [sA, sB, sC]); rfl)
  (hQ : ∀ c a w, Q (.panic c) (a.put oi.dst v) w → Q (.panic c) a w := by exact fun _ _ _ h => h) : wpAnyT P md ops Q S n (fuel + 1) listed a w := by
  subst ha; subst hl
  exact wpAnyT_take hi hB hQ hS (.inl ⟨hw, hy⟩) h
theorem ty (ex : List Nat) (i : Nat) (v : Value) (a' : Act) (l' : Array Bool) {oi : Oper} {fuel : Nat} {listed : Array Bool} {a : Act} {w : World} (h : wpAnyT P md ops Q S n fuel l' a' w)
  (hi : ops[i]? = some oi := by rfl) (hB : (Region.noSelect ops && sinkX md ops n ex && Region.chainB md ops n && decide (n < ops.size) && (ex.all fun i => listed.getD i false) && closedB md ops n listed && Region.free md ops listed i && (Region.ready md ops listed).contains i && decide (i < n)) = true := by kernel_rfl)
  (hS : S w := by assumption) (hw : Region.wanted oi (yielded ops a.tmps) = true := by rfl)
  (hy : ∀ w, S w → (execOp a.eval oi).run P w = .ok (.value v) w := by intro w' hSw; (try dsimp only at hSw); go_simp; try with_reducible rfl)
  (ha : a.put oi.dst v = a' := by (try simp only [Act.put, sA, sB, sC, sD, sE, sF]); rfl) (hl : listed.setIfInBounds i true = l' := by (try simp only [sA, sB, sC]); rfl)
  (hQ : ∀ c a w, Q (.panic c) (a.put oi.dst v) w → Q (.panic c) a w := by exact fun _ _ _ h => h) : wpAnyT P md ops Q S n (fuel + 1) listed a w := by
  subst ha; subst hl
  exact wpAnyT_takeX ex hi hB hQ hS (.inl ⟨hw, hy⟩) h
end
end Go.Proofs.YtoelmnamlnbdhaaGreatDoor
