/-
  Part of a proof of RunLoops: contracts of functions that the claim reaches, and plain lemmas.
-/
import Derived.Test.YtoelmnamlnbdhaaGreatDoorKfBI
import Derived.RangeFuncNested
import Derived.RangeFuncBound
import Derived.RangeFuncCalls
import Derived.RangeFuncLeaves
import Derived.RangeFuncWrites
import Derived.Shelf.Abstract
import Derived.WalkKit
import Derived.OwnWalkIn
import Derived.TacticsInMore
import Derived.LoopNIn
import Derived.LoopIn
import Derived.Maps.OwnIn
import Derived.OrdersIn
set_option linter.all false
namespace Go.Proofs.YtoelmnamlnbdhaaGreatDoor
open Go.RowKit
open Hg (GT gl)
section
variable {P : Program} {ops : Array Oper} {Q : Exit → Act → World → Prop} {md : Region.Mode} {l n : Nat}
theorem wp_inRound {o : Oper} {a : Act} {w : World} {K : Act → World → Prop} (hd : ∀ c, o.op ≠ .defer c) (h : o.wp P a w K Q) : o.wpIn (Fence.wide.inRound l) n P a w K Q := by
 unfold Oper.wpIn
 refine ⟨fun _ _ => trivial, ?_⟩
 have e : Oper.semAt (Fence.wide.inRound l).round a.eval o = execOp a.eval o := Oper.semAt_some l _ o hd
 rw [e]
 unfold Oper.wp at h
 generalize (execOp a.eval o).run P w = r at h ⊢
 cases r with
 | halt c w' =>
   cases c <;> first | exact h | exact h.elim
 | ok x w' =>
   cases x with
   | value v => exact h
   | skip => exact h
   | enter f args =>
     refine ⟨fun hs => (by cases hs), CallsIn.inRound l ?_⟩
     refine callsIn_wide.2 (Calls.mono h ?_)
     intro e w2 he
     cases e <;> exact he
   | row r args =>
     refine ⟨fun hs => (by cases hs), ?_⟩
     intro c cs _
     obtain ⟨v, w2, hr, hs⟩ := h c cs
     exact ⟨v, w2, hr, stepsIn_wide.2 hs⟩
   | _ => first | exact h | exact h.elim
theorem wpOp_inRound {i : Nat} {a : Act} {w : World} {K : Act → World → Prop} (hd : ∀ (j : Nat) (o : Oper) c, ops[j]? = some o → o.op ≠ .defer c) (hQ : ¬ LetsOut Q) (h : wpOp P ops Q i K a w) : wpOpIn (Fence.wide.inRound l) n P ops Q i K a w := by
 unfold wpOpIn
 unfold wpOp at h
 cases ho : ops[i]? with
 | none => rw [ho] at h; exact h
 | some o =>
   rw [ho] at h
   dsimp only at h ⊢
   by_cases hw : Region.wanted o (yielded ops a.tmps) = true
   ·
    rw [if_pos hw] at h ⊢
    rcases h with h | h
    ·
     exact wp_inRound (fun c => hd i o c ho) h
    ·
     exact absurd h.2 hQ
   ·
    rw [if_neg hw] at h ⊢
    exact ⟨fun _ _ => trivial, h⟩
theorem wpAny_inRound (hd : ∀ (j : Nat) (o : Oper) c, ops[j]? = some o → o.op ≠ .defer c) (hQ : ¬ LetsOut Q) : ∀ (fuel : Nat) (listed : Array Bool) (a : Act) (w : World), wpAny P md ops Q fuel listed a w → wpAnyIn (Fence.wide.inRound l) n P md ops Q fuel listed a w
 | 0, _, _, _, h => h
 | fuel + 1, listed, a, w, h => ⟨h.1, fun i hi => wpOpIn_mono (fun a' w' h' => wpAny_inRound hd hQ fuel _ a' w' h') (wpOp_inRound hd hQ (h.2 i hi))⟩
def noDefer (ops : Array Oper) : Bool := ops.all fun o => match o.op with | .defer _ => false | _ => true
theorem noDefer_spec (h : noDefer ops = true) : ∀ (j : Nat) (o : Oper) c, ops[j]? = some o → o.op ≠ .defer c := by
 intro j o c ho e
 have := Array.all_eq_true_iff_forall_mem.1 h o (Array.mem_of_getElem? ho)
 rw [e] at this
 cases this
theorem wpIn_region_two {id : Nat} {a : Act} {w : World} (S : World → Prop) (k : Nat) (hm : P.follows .mixedOrders = true) (hd : noDefer ops = true) (hQ : ¬ LetsOut Q)
 (h : wpAnyT P .any ops Q S k ops.size (Array.replicate ops.size false) a w.drew) : (Code.region id ops true).wpIn (Fence.wide.inRound l) n P Q a w :=
 wpIn_region_any hm (wpAny_inRound (noDefer_spec hd) hQ _ _ _ _ (wpAny_of_T _ _ _ _ h))
end
end Go.Proofs.YtoelmnamlnbdhaaGreatDoor
namespace Go.Proofs.YtoelmnamlnbdhaaGreatDoor
open Go.RowKit
open Hg (GT gl)
structure WItem where
 id : Nat
 nd : Hg.Node
 ka : Option Addr
 kc : Nat
def WItem.strip (x : WItem) : Nat × Hg.Node := (x.id, x.nd)
@[reducible] def WItem.kv (x : WItem) : Value := .slice x.ka x.nd.kids.length x.kc
@[reducible] def WItem.enc (x : WItem) : Array Value := #[idV x.id, ndV x.nd x.ka x.kc]
def WItem.kb (x : WItem) (q : Nat) : Prop := x.kv.ownBlock = some q
def WItem.At (x : WItem) (w : World) : Prop := Sl w w.heap.size x.kv x.nd.kids.length (x.nd.kids.map idV)
def SeqW (P : Program) (gf : Nat) (lb : Array Value) (Bs : Nat → Prop) (n₀ : Nat) (xs : List (Nat × Hg.Node)) (w0 : World) : Prop :=
 ∀ (m l : Nat) (J : (Nat → Prop) → List WItem → World → Prop) (Jx : List WItem → World → Prop) (W : World), Fr (fun q => n₀ ≤ q ∧ ¬ Bs q) w0 W →
   (∀ Z pre A B, J Z pre A → Fr Z A B → J (fun q => Z q ∨ A.heap.size ≤ q ∧ q < B.heap.size) pre B) →
   (∀ Z pre x A, J Z pre A → (∀ q, Z q → q < A.heap.size) → (pre ++ [x]).map WItem.strip <+: xs → x.At A → (∀ q, x.kb q → Z q) →
    YieldAt Fence.wide (m - 1) P l x.enc A fun e W' => (e = .returned (.bool true) ∧ J Z (pre ++ [x]) W' ∧ Fr (fun q => n₀ ≤ q ∧ ¬ Z q) A W') ∨ (e = .returned (.bool false) ∧ Jx (pre ++ [x]) W')) →
   J Bs [] W →
   CallsIn Fence.wide m P gf (#[.func (.yield l) #[] #[]] ++ lb) W fun e W' => (∃ v, e = .returned v) ∧ ((∃ Z ys, ys.map WItem.strip = xs ∧ J Z ys W') ∨ (∃ pre, pre.map WItem.strip <+: xs ∧ Jx pre W'))
def ownPostW (I : (Nat → Prop) → List WItem → World → Prop) (Ix : Code → (Nat → Prop) → List WItem → World → Prop) (S : Nat → Prop) (xs : List WItem) (W : World) : Exit → Act → World → Prop
 | .normal, _, W' => ∃ S', I S' xs W' ∧ Fr S W W' ∧ ∀ q, S' q → S q ∨ W.heap.size ≤ q
 | .ret, _, W' => ∃ S', Ix .ret S' xs W' ∧ Fr S W W' ∧ ∀ q, S' q → S q ∨ W.heap.size ≤ q
 | .exit id, _, W' => ∃ S', Ix (.exit id) S' xs W' ∧ Fr S W W' ∧ ∀ q, S' q → S q ∨ W.heap.size ≤ q
 | _, _, _ => False
variable {n : Nat} {P : Program}
theorem putObj_fr (W : World) (l : Nat) (o : Obj) : Fr (fun q => q = l) W (W.putObj l o) := Fr.of_grown (grownBy_putObj' W l o) (fun q e => by injection e with e; exact e.symm)
theorem wpIn_walk {g : Operand} {ps : Array Tmp} {assign body : Code} {Q : Exit → Act → World → Prop} {a : Act} {w : World}
 {gf : Nat} {lb : Array Value} (hg : a.eval g = .func (.func gf) #[] lb) (eg : ∀ args w, (callFunc gf args).run P w = .ok (.enter gf args) w)
 {Bs : Nat → Prop} {n₀ : Nat} {xs : List (Nat × Hg.Node)} {w0 : World} (hseq : SeqW P gf lb Bs n₀ xs w0) (hb0 : Fr (fun q => n₀ ≤ q ∧ ¬ Bs q) w0 w) (hps : ps.size = 2)
 (hB0 : ∀ q, Bs q → n₀ ≤ q ∧ q < w.heap.size) (hn₀ : n₀ ≤ w.heap.size)
 (I : (Nat → Prop) → List WItem → World → Prop) (Ix : Code → (Nat → Prop) → List WItem → World → Prop) (I1 : (Nat → Prop) → List WItem → WItem → Act → World → Prop)
 (hI : ∀ S pre A B, I S pre A → Fr (fun q => ¬ S q) A B → I S pre B) (hIx : ∀ c S pre A B, Ix c S pre A → Fr (fun q => ¬ S q) A B → Ix c S pre B)
 (hI1 : ∀ S pre x a A B, I1 S pre x a A → Fr (fun q => ¬ (S q ∨ x.kb q)) A B → I1 S pre x a B)
 (hIl : ∀ S pre A, I S pre A → ∀ q, S q → q < A.heap.size) (hI1l : ∀ S pre x a A, I1 S pre x a A → ∀ q, S q → q < A.heap.size)
 (S0 : Nat → Prop) (h0 : I S0 [] w) (hS0 : ∀ q, S0 q → n₀ ≤ q ∧ q < w.heap.size ∧ ¬ Bs q)
 (hassign : ∀ (l m : Nat) (S : Nat → Prop) (pre : List WItem) (x : WItem) (A : World) (K : Act → World → Prop), I S pre A → (pre ++ [x]).map WItem.strip <+: xs → x.At A → (∀ q, x.kb q → ¬ S q) → Fr (fun q => S0 q ∨ Bs q) w A →
  (∀ S1 a1 A1, I1 S1 pre x a1 A1 → Fr S A A1 → (∀ q, S1 q → S q ∨ A.heap.size ≤ q) → K a1 A1) →
  assign.wpIn (Fence.wide.inRound l) m P (Exit.then K (fun _ _ _ => False)) { tmps := (ps.zip x.enc).foldl (fun t (p, v) => t.setIfInBounds p v) a.tmps, defers := [] } A)
 (hbody : ∀ (l m : Nat) (S : Nat → Prop) (pre : List WItem) (x : WItem) (a1 : Act) (A : World), I1 S pre x a1 A → (pre ++ [x]).map WItem.strip <+: xs → Fr (fun q => S0 q ∨ Bs q) w A →
  body.wpIn (Fence.wide.inRound l) m P (ownPostW I Ix S (pre ++ [x]) A) a1 A)
 (hdone : ∀ (S : Nat → Prop) (ys : List WItem) (W : World), ys.map WItem.strip = xs → I S ys W → W.heap[w.heap.size]? = some (.deferred (some [])) → ¬ S w.heap.size → Fr (fun q => S0 q ∨ Bs q) w W → Q .normal { a with defers := { target := .collected w.heap.size, args := #[] } :: a.defers } W)
 (hstop : ∀ (c : Code) (S : Nat → Prop) (pre : List WItem) (W : World), pre.map WItem.strip <+: xs → Ix c S pre W → W.heap[w.heap.size]? = some (.deferred (some [])) → ¬ S w.heap.size → Fr (fun q => S0 q ∨ Bs q) w W → c.wpIn Fence.wide n P Q { a with defers := { target := .collected w.heap.size, args := #[] } :: a.defers } W) :
 (Code.rangeFunc g ps assign body).wpIn Fence.wide n P Q a w := by
 refine wpIn_rangeFunc ?_
 intro fn hfn
 show ∃ (l : Nat) (mark : List Deferred) (w₁ : World) (d : Deferred) (w₁' : World) (f : FuncId) (args : Array Value) (w₂ : World), (Instr.enterLoop fn a.tmps ps assign body none).run P w = .ok (l, mark) w₁ ∧ _
 obtain ⟨rec, hrec⟩ : ∃ rec : LoopState → Option Code → Loop, rec = fun st pe => { state := st, pending := pe, fn, tmps := a.tmps, params := ps, assign, body, defers := w.heap.size } := ⟨_, rfl⟩
 obtain ⟨W1, hW1⟩ : ∃ W1, (w.alloc (.deferred (some []))).alloc (.loop (rec .ready none)) = W1 := ⟨_, rfl⟩
 have hL1 : W1.heap[w.heap.size + 1]? = some (.loop (rec .ready none)) := by
  rw [← hW1]; have := World.alloc_heap_new (w.alloc (.deferred (some []))) (.loop (rec .ready none)); rwa [World.size_alloc] at this
 have hK1 : W1.heap[w.heap.size]? = some (.deferred (some [])) := by
  rw [← hW1]; exact (Below.heap_alloc _ _ _ (by simp)).trans (World.alloc_heap_new w _)
 have hf1 : ∀ D, Fr D w W1 := fun D => by rw [← hW1]; exact ((Fr.refl D w).alloc _).alloc _
 have hI1' : I S0 [] W1 := hI _ _ _ _ h0 (hf1 _)
 have hb1 : Fr (fun q => n₀ ≤ q ∧ ¬ Bs q) w0 W1 := hb0.trans (hf1 _)
 refine ⟨w.heap.size + 1, [{ target := .collected w.heap.size, args := #[] }], W1, { target := .fn (.func gf) lb, args := #[.func (.yield (w.heap.size + 1)) #[] #[]] }, W1, gf,
  #[.func (.yield (w.heap.size + 1)) #[] #[]] ++ lb, W1, ?_, ?_, ?_, ?_, fun hs => (by cases hs), ?_⟩
 ·
  rw [← hW1, hrec]; exact run_enterLoop_outer _ _ _ _ _
 ·
  simp only [resolve, hg]
  simp [go_sem]
 ·
  intro f' hf'; trivial
 ·
  simp [invoke, go_sem, eg]
 ·
  have hz1 : W1.heap.size = w.heap.size + 2 := by rw [← hW1]; simp
  refine (hseq (n - 1) (w.heap.size + 1)
   (fun Z pre A => ∃ S, I S pre A ∧ (∀ q, S q → n₀ ≤ q ∧ ¬ Z q ∧ q ≠ w.heap.size + 1 ∧ q ≠ w.heap.size) ∧ A.heap[w.heap.size + 1]? = some (.loop (rec .ready none)) ∧ A.heap[w.heap.size]? = some (.deferred (some [])) ∧ ¬ Z (w.heap.size + 1) ∧ ¬ Z w.heap.size ∧ (∀ q, Z q → Bs q ∨ w.heap.size ≤ q) ∧ (∀ q, S q → S0 q ∨ w.heap.size ≤ q) ∧ Fr (fun q => S0 q ∨ Bs q) w A)
   (fun pre A => ∃ c S, Ix c S pre A ∧ (∀ q, S q → q ≠ w.heap.size + 1 ∧ q ≠ w.heap.size) ∧ A.heap[w.heap.size + 1]? = some (.loop (rec .done (some c))) ∧ A.heap[w.heap.size]? = some (.deferred (some [])) ∧ Fr (fun q => S0 q ∨ Bs q) w A)
   W1 hb1 ?_ ?_ ?_).mono ?_
  ·
   rintro Z pre A B ⟨S, hi, hS, hl, hk, hzl, hzk, hzb, hsb, hf⟩ hfr
   have hlA : w.heap.size + 1 < A.heap.size := (Array.getElem?_eq_some_iff.1 hl).1
   refine ⟨S, hI _ _ _ _ hi (hfr.imp (fun q _ hz hs => (hS q hs).2.1 hz)), fun q hs => ⟨(hS q hs).1, ?_, (hS q hs).2.2⟩, hfr.at_ hl hzl, hfr.at_ hk hzk, ?_, ?_, ?_, hsb, hf.then_ hfr (fun q hq hz => ?_)⟩
   ·
    rintro (h | h)
    ·
     exact (hS q hs).2.1 h
    ·
     have := hIl _ _ _ hi q hs; omega
   ·
    rintro (h | h)
    ·
     exact hzl h
    ·
     omega
   ·
    rintro (h | h)
    ·
     exact hzk h
    ·
     omega
   ·
    rintro q (h | h)
    ·
     exact hzb q h
    ·
     exact .inr (by omega)
   ·
    rcases hzb q hz with h | h
    ·
     exact .inr h
    ·
     omega
  ·
   rintro Z pre x A ⟨S, hi, hS, hl, hk, hzl, hzk, hzb, hsb, hf⟩ hZlt hpre hx hxZ
   have hlA : w.heap.size + 1 < A.heap.size := (Array.getElem?_eq_some_iff.1 hl).1
   have hy := run_yield (P := P) (args := x.enc) hl (by rw [hrec]; exact hps.symm)
   rw [hrec] at hy
   refine ⟨fn, _, assign, body, hy, roundIn_of_wpIn hfn (hassign _ _ S pre x A _ hi hpre hx (fun q hq hs => (hS q hs).2.1 (hxZ q hq)) hf ?_)⟩
   intro S1 a1 A1 hi1 hfa hS1
   have hlA1 : A1.heap[w.heap.size + 1]? = some (.loop (rec .ready none)) := hfa.at_ hl (fun hs => (hS _ hs).2.2.1 rfl)
   have hkA1 : A1.heap[w.heap.size]? = some (.deferred (some [])) := hfa.at_ hk (fun hs => (hS _ hs).2.2.2 rfl)
   have hltA1 : w.heap.size + 1 < A1.heap.size := (Array.getElem?_eq_some_iff.1 hlA1).1
   refine ⟨_, run_beginRound hlA1 (by rw [hrec]), ?_⟩
   have hp1 := putObj_fr A1 (w.heap.size + 1) (.loop { rec .ready none with state := .busy })
   have hl2 : (A1.putObj (w.heap.size + 1) (.loop { rec .ready none with state := .busy })).heap[w.heap.size + 1]? = some (.loop { rec .ready none with state := .busy }) := World.putObj_heap_same hltA1
   have hk2 : (A1.putObj (w.heap.size + 1) (.loop { rec .ready none with state := .busy })).heap[w.heap.size]? = some (.deferred (some [])) := (World.putObj_heap_other (by omega)).trans hkA1
   have hxl : ¬ x.kb (w.heap.size + 1) := fun h => hzl (hxZ _ h)
   have hS1l : ¬ S1 (w.heap.size + 1) := fun h => by
    rcases hS1 _ h with h | h
    ·
     exact (hS _ h).2.2.1 rfl
    ·
     omega
   have hS1k : ¬ S1 w.heap.size := fun h => by
    rcases hS1 _ h with h | h
    ·
     exact (hS _ h).2.2.2 rfl
    ·
     omega
   have hfA1 : Fr (fun q => S0 q ∨ Bs q) w A1 := hf.then_ hfa (fun q hq hs => by
    rcases hsb q hs with h | h
    ·
     exact .inl h
    ·
     omega)
   have hi2 := hI1 _ _ _ _ _ _ hi1 (hp1.imp (fun q _ e => by subst e; rintro (h | h); exact hS1l h; exact hxl h))
   have hfA2 : Fr (fun q => S0 q ∨ Bs q) w (A1.putObj (w.heap.size + 1) (.loop { rec .ready none with state := .busy })) := hfA1.then_ hp1 (fun q hq e => by omega)
   generalize hA2 : A1.putObj (w.heap.size + 1) (.loop { rec .ready none with state := .busy }) = A2 at hp1 hl2 hk2 hi2 hfA2
   have hz2 : A1.heap.size ≤ A2.heap.size := hp1.size
   refine wpIn_mono (hbody _ _ S1 pre x a1 A2 hi2 hpre hfA2) ?_
   have fin : ∀ (jump : Option Code) (S' : Nat → Prop) (W3 : World), Fr S1 A2 W3 → (∀ q, S' q → S1 q ∨ A2.heap.size ≤ q) →
    (Instr.endRound (w.heap.size + 1) jump).run P W3 = .ok (.bool jump.isNone) (W3.putObj (w.heap.size + 1) (.loop (rec (if jump.isNone then .ready else .done) jump))) ∧
    (W3.putObj (w.heap.size + 1) (.loop (rec (if jump.isNone then .ready else .done) jump))).heap[w.heap.size + 1]? = some (.loop (rec (if jump.isNone then .ready else .done) jump)) ∧
    (W3.putObj (w.heap.size + 1) (.loop (rec (if jump.isNone then .ready else .done) jump))).heap[w.heap.size]? = some (.deferred (some [])) ∧
    Fr (fun q => q = w.heap.size + 1) W3 (W3.putObj (w.heap.size + 1) (.loop (rec (if jump.isNone then .ready else .done) jump))) ∧ ¬ S' (w.heap.size + 1) ∧ ¬ S' w.heap.size ∧
    Fr (fun q => S0 q ∨ Bs q) w (W3.putObj (w.heap.size + 1) (.loop (rec (if jump.isNone then .ready else .done) jump))) := fun jump S' W3 hf3 hS' => by
    have hl3 : W3.heap[w.heap.size + 1]? = some (.loop { rec .ready none with state := .busy }) := hf3.at_ hl2 hS1l
    have hk3 : W3.heap[w.heap.size]? = some (.deferred (some [])) := hf3.at_ hk2 hS1k
    have := run_endRound (P := P) jump hl3
    have hpf := putObj_fr W3 (w.heap.size + 1) (.loop (rec (if jump.isNone then .ready else .done) jump))
    refine ⟨?_, World.putObj_heap_same (Array.getElem?_eq_some_iff.1 hl3).1, (World.putObj_heap_other (by omega)).trans hk3, hpf, fun h => ?_, fun h => ?_, ?_⟩
    ·
     rw [hrec] at this ⊢; exact this
    ·
     rcases hS' _ h with h | h
     ·
      exact hS1l h
     ·
      omega
    ·
     rcases hS' _ h with h | h
     ·
      exact hS1k h
     ·
      omega
    ·
     refine (hfA2.then_ hf3 (fun q hq hs => ?_)).then_ hpf (fun q hq e => by omega)
     rcases hS1 q hs with h | h
     ·
      rcases hsb q h with h | h
      ·
       exact .inl h
      ·
       omega
     ·
      omega
   rintro e a3 W3 hp
   cases e with
   | normal =>
     obtain ⟨S', hi3, hf3, hS'⟩ := hp
     obtain ⟨hr, hl4, hk4, hpf, hSl, hSk, hfw⟩ := fin none S' W3 hf3 hS'
     have hcls : ∀ q, S' q → S q ∨ A.heap.size ≤ q := fun q hq => by
      rcases hS' q hq with h | h
      ·
       exact hS1 q h
      ·
       have := hfa.size; exact .inr (by omega)
     refine ⟨_, _, hr, .inl ⟨rfl, ⟨S', hI _ _ _ _ hi3 (hpf.imp (fun q _ e hs => by subst e; exact hSl hs)), fun q hq => ⟨?_, ?_, fun e => by subst e; exact hSl hq, fun e => by subst e; exact hSk hq⟩, hl4, hk4, hzl, hzk, hzb, fun q hq => ?_, hfw⟩, ?_⟩⟩
     ·
      rcases hcls q hq with h | h
      ·
       exact (hS q h).1
      ·
       omega
     ·
      intro hz
      rcases hcls q hq with h | h
      ·
       exact (hS q h).2.1 hz
      ·
       have := hZlt q hz; omega
     ·
      rcases hcls q hq with h | h
      ·
       exact hsb q h
      ·
       exact .inr (by omega)
     ·
      have hS1c : ∀ q, q < A.heap.size → S1 q → n₀ ≤ q ∧ ¬ Z q := fun q hq hs => by
       rcases hS1 q hs with h | h
       ·
        exact ⟨(hS q h).1, (hS q h).2.1⟩
       ·
        omega
      refine (((hfa.imp (fun q _ hs => ⟨(hS q hs).1, (hS q hs).2.1⟩)).then_ hp1 (fun q hq e => ?_)).then_ hf3 (fun q hq hs => hS1c q hq hs)).then_ hpf (fun q hq e => ?_)
      ·
       subst e; exact ⟨by omega, hzl⟩
      ·
       subst e; exact ⟨by omega, hzl⟩
   | ret =>
     obtain ⟨S', hi3, hf3, hS'⟩ := hp
     obtain ⟨hr, hl4, hk4, hpf, hSl, hSk, hfw⟩ := fin (some .ret) S' W3 hf3 hS'
     exact ⟨_, _, hr, .inr ⟨rfl, .ret, S', hIx _ _ _ _ _ hi3 (hpf.imp (fun q _ e hs => by subst e; exact hSl hs)), fun q hq => ⟨fun e => by subst e; exact hSl hq, fun e => by subst e; exact hSk hq⟩, hl4, hk4, hfw⟩⟩
   | exit id =>
     obtain ⟨S', hi3, hf3, hS'⟩ := hp
     obtain ⟨hr, hl4, hk4, hpf, hSl, hSk, hfw⟩ := fin (some (.exit id)) S' W3 hf3 hS'
     exact ⟨_, _, hr, .inr ⟨rfl, .exit id, S', hIx _ _ _ _ _ hi3 (hpf.imp (fun q _ e hs => by subst e; exact hSl hs)), fun q hq => ⟨fun e => by subst e; exact hSl hq, fun e => by subst e; exact hSk hq⟩, hl4, hk4, hfw⟩⟩
   | goto t => exact hp.elim
   | panic ch => exact hp.elim
   | outgrown => exact hp.elim
  ·
   exact ⟨S0, hI1', fun q hq => ⟨(hS0 q hq).1, (hS0 q hq).2.2, fun e => by have := (hS0 q hq).2.1; omega, fun e => by have := (hS0 q hq).2.1; omega⟩, hL1, hK1, fun h => by have := (hB0 _ h).2; omega, fun h => by have := (hB0 _ h).2; omega, fun q h => .inl h, fun q h => .inl h, hf1 _⟩
  ·
   rintro e W2 ⟨⟨v, rfl⟩, (⟨Z, ys, hys, S, hi, hS, hl, hk, -, -, -, -, hf⟩ | ⟨pre, hpre, c, S, hi, hS, hl, hk, hf⟩)⟩
   ·
    have hpf := putObj_fr W2 (w.heap.size + 1)
    refine ⟨none, _, by have := run_endLoop (P := P) hl (by rw [hrec]; simp); rw [hrec] at this; exact this, ?_⟩
    exact hdone S ys _ hys (hI _ _ _ _ hi ((hpf _).imp (fun q _ e hs => by subst e; exact (hS _ hs).2.2.1 rfl))) ((World.putObj_heap_other (by omega)).trans hk) (fun h => (hS _ h).2.2.2 rfl) (hf.then_ (hpf _) (fun q hq e => by omega))
   ·
    have hpf := putObj_fr W2 (w.heap.size + 1)
    refine ⟨some c, _, by have := run_endLoop (P := P) hl (by rw [hrec]; simp); rw [hrec] at this; exact this, ?_⟩
    exact hstop c S pre _ hpre (hIx _ _ _ _ _ hi ((hpf _).imp (fun q _ e hs => by subst e; exact (hS _ hs).1 rfl))) ((World.putObj_heap_other (by omega)).trans hk) (fun h => (hS _ h).2 rfl) (hf.then_ (hpf _) (fun q hq e => by omega))
end Go.Proofs.YtoelmnamlnbdhaaGreatDoor
namespace Hg
def wk (M : Nat → Option Node) : Nat → List Nat → List Nat → Option (List (Nat × Node))
 | 0, _, _ => none
 | _ + 1, [], _ => some []
 | f + 1, i :: s, seen => match M i with
   | none => wk M f s seen
   | some n => if i ∈ seen then wk M f s seen else (wk M f (n.kids ++ s) (i :: seen)).map ((i, n) :: ·)
theorem wk_nil (M : Nat → Option Node) (f : Nat) (seen : List Nat) : wk M (f + 1) [] seen = some [] := rfl
theorem wk_cons (M : Nat → Option Node) (f i : Nat) (s seen : List Nat) : wk M (f + 1) (i :: s) seen = match M i with
 | none => wk M f s seen
 | some n => if i ∈ seen then wk M f s seen else (wk M f (n.kids ++ s) (i :: seen)).map ((i, n) :: ·) := rfl
theorem wk_len (M : Nat → Option Node) : ∀ (f : Nat) (s seen : List Nat) (r : List (Nat × Node)), wk M f s seen = some r → s.length < f
 | 0, _, _, _, h => by cases h
 | f + 1, [], _, _, _ => by simp
 | f + 1, i :: s, seen, r, h => by
   rw [wk_cons] at h
   cases hM : M i with
   | none => rw [hM] at h; have := wk_len M f s seen r h; simp; omega
   | some n =>
     rw [hM] at h
     dsimp only at h
     by_cases hi : i ∈ seen
     ·
      rw [if_pos hi] at h; have := wk_len M f s seen r h; simp; omega
     ·
      rw [if_neg hi] at h
      cases hw : wk M f (n.kids ++ s) (i :: seen) with
      | none => rw [hw] at h; cases h
      | some r' => have := wk_len M f _ _ r' hw; simp at this ⊢; omega
theorem least_ex {p : Nat → Prop} (h : ∃ n, p n) : ∃ m, p m ∧ ∀ n, p n → m ≤ n := by
 obtain ⟨n, hn⟩ := h
 induction n using Nat.strongRecOn with
 | _ n ih =>
   by_cases hm : ∃ k, k < n ∧ p k
   ·
    obtain ⟨k, hk, hp⟩ := hm
    exact ih k hk hp
   ·
    refine ⟨n, hn, fun k hk => ?_⟩
    rcases Nat.lt_or_ge k n with h | h
    ·
     exact absurd ⟨k, h, hk⟩ hm
    ·
     exact h
open Classical in
noncomputable def least (p : Nat → Prop) : Nat := if h : ∃ n, p n then Classical.choose (least_ex h) else 0
theorem least_spec {p : Nat → Prop} (h : ∃ n, p n) : p (least p) := by
 unfold least
 rw [dif_pos h]
 exact (Classical.choose_spec (least_ex h)).1
theorem least_le {p : Nat → Prop} {n : Nat} (h : p n) : least p ≤ n := by
 unfold least
 rw [dif_pos ⟨n, h⟩]
 exact (Classical.choose_spec (least_ex ⟨n, h⟩)).2 n h
end Hg
namespace Go.Proofs.YtoelmnamlnbdhaaGreatDoor
open Go.RowKit
open Hg (GT gl wk)
attribute [local go_sem] Oper.semAt_some
section
variable {P : Program}
theorem wpListIn_append_sl {F : Fence} {k : Nat} (w : World) {ops : Array Oper} {rest : List Oper} {o : Oper} {a : Act} {Q : Exit → Act → World → Prop} (hgd : o.guard = none) (s x : Operand) (t : TypeId)
 (ho : o.op = .call { callee := .builtin .append, args := #[s, x], argTypes := #[t, t] })
 (base : Nat) (e : TypeId) (i : TypeInfo) (z : Value) (bytes : Nat) (ht : P.underlying t = some (.slice e)) (hi : P.info? e = some i) (hz : i.zero = some z)
 (hsize : i.size = 1) (hby : i.bytes = bytes) (hzs : z.cells.size = 1)
 (v : Value) (n : Nat) (xs : List Value) (hs : a.eval s = v) (hown : w.ownsRow base e 1 v n xs)
 (B : Nat) (vx : Value) (m : Nat) (news : List Value) (hx : a.eval x = vx) (hsl : Sl w B vx m news) (hl : news.length = m) (h1 : ∀ u ∈ news, u.oneCell' = true)
 (h63 : n + m ≤ maxLen) (hbytes : (n + m) * bytes ≤ 140737488355328) (hbase : base ≤ w.heap.size)
 (h : ∀ v' w', w'.ownsRow base e 1 v' (n + m) (xs ++ news) → w.grownBy w' v.ownBlock → (v'.ownBlock = v.ownBlock ∨ v'.ownBlock = some w.heap.size) → wpListIn F k P ops Q rest (a.put o.dst v') w') :
 wpListIn F k P ops Q (o :: rest) a w := by
 obtain ⟨ax, c, rfl, hc⟩ := hsl
 cases ax with
 | none =>
   have hn0 : news = [] := by
    rcases Nat.eq_zero_or_pos news.length with h0 | h0
    ·
     exact List.eq_nil_of_length_eq_zero h0
    ·
     obtain ⟨b, o', hb, _⟩ := hc h0; cases hb
   subst hn0
   simp only [List.length_nil] at hl
   subst hl
   refine wpListIn_plain hgd fun K hK => ?_
   have hrun := run_append_nils (P := P) (w := w) base t o.type e i 1 c ht hi v n xs hown
   unfold Oper.wpIn
   refine ⟨by simp [Oper.about, ho, resolve, Target.leads, Sem.run_pure], ?_⟩
   rw [Oper.semAt_plain F _ _ (by rw [ho]; intro c hc'; cases hc')]
   simp [execOp, ho, resolve, invoke, builtin, hs, hx, hrun, Result.andThen]
   refine hK _ _ (h v w ?_ ⟨rfl, rfl, rfl, Nat.le_refl _, fun _ _ _ => rfl⟩ (.inl rfl))
   simpa using hown
 | some ad =>
   refine wpListIn_append_own_at w hgd s x t ho base e i z 1 bytes ht hi hz hsize hby hzs (by decide) v n xs hs hown ad m c news hx (by omega) (fun j u hj => ?_) h1 h63 hbytes hbase (fun v' w' a1 a2 _ a4 => h v' w' a1 a2 a4)
   obtain ⟨hlt, he⟩ := List.getElem?_eq_some_iff.1 hj
   obtain ⟨b, o', hb, _, hcell⟩ := hc (by omega)
   injection hb with hb
   subst hb
   have hadd : (⟨b, o', none⟩ : Addr).add j = ⟨b, o' + j, none⟩ := by unfold Addr.add; split <;> simp_all
   rw [hadd, hcell j hlt, he]
end
def seenM (l : List Nat) : List (Nat × Value) := l.map fun k => (k, .bool true)
abbrev IMap := XMap (α := Nat) 45 idV
structure WkSt (M : Nat → Option Hg.Node) (n₀ ib bb sb id ab : Nat) (F : Nat) (xs : List (Nat × Hg.Node)) (J : (Nat → Prop) → List WItem → World → Prop) (w0 : World) (f : Nat) (v : Value) (wr : World) (Z : Nat → Prop) (pre : List WItem) (stack seen : List Nat) (rest : List (Nat × Hg.Node)) : Prop where
 j : J Z pre wr
 z : ∀ q, Z q → n₀ ≤ q ∧ q < wr.heap.size
 zi : Z ib ∧ Z bb ∧ Z sb
 box : wr.cell? ⟨ib, 0, none⟩ = some (idV id) ∧ wr.cell? ⟨bb, 0, none⟩ = some (.pointer (some ⟨ab, 0, none⟩))
 own : wr.ownsRow n₀ 45 1 v stack.length (stack.reverse.map idV)
 vz : ∀ q, v.ownBlock = some q → Z q ∧ q ≠ ib ∧ q ≠ bb
 sne : sb ≠ ib ∧ sb ≠ bb
 mp : IMap wr sb (seenM seen)
 top : ∀ x ∈ stack, x < idTop
 run : wk M f stack seen = some rest
 all : pre.map WItem.strip ++ rest = xs
 cnt : seen.length + f ≤ F
 fr : Fr (fun q => n₀ ≤ q) w0 wr
section
variable {M : Nat → Option Hg.Node} {n₀ ib bb sb id ab F : Nat} {xs : List (Nat × Hg.Node)} {J : (Nat → Prop) → List WItem → World → Prop} {w0 : World} {f g z i : Nat} {wr W2 W3 W4 W5 W6 : World} {Z : Nat → Prop} {pre : List WItem} {s seen : List Nat} {rest : List (Nat × Hg.Node)}
theorem WkSt.pop (h : WkSt M n₀ ib bb sb id ab F xs J w0 f (.slice (some ⟨g, 0, none⟩) (s.length + 1) z) wr Z pre (i :: s) seen rest) : wr.ownsRow n₀ 45 1 (.slice (some ⟨g, 0, none⟩) s.length z) s.length (s.reverse.map idV) :=
 ownsRow_pop (n := s.length) (size := 1) (xs := s.reverse.map idV) (by simp) (show wr.ownsRow n₀ 45 1 (.slice (some ⟨g, 0, none⟩) (s.length + 1) z) (s.length + 1) (s.reverse.map idV ++ [idV i]) from by simpa using h.own)
theorem WkSt.skip (h : WkSt M n₀ ib bb sb id ab F xs J w0 (f + 1) (.slice (some ⟨g, 0, none⟩) (s.length + 1) z) wr Z pre (i :: s) seen rest) (hJ : ∀ Z pre A B, J Z pre A → Fr Z A B → J (fun q => Z q ∨ A.heap.size ≤ q ∧ q < B.heap.size) pre B)
 (hf : Fr (fun _ => False) wr W2) (hw : wk M (f + 1) (i :: s) seen = wk M f s seen) :
 WkSt M n₀ ib bb sb id ab F xs J w0 f (.slice (some ⟨g, 0, none⟩) s.length z) W2 (fun q => Z q ∨ wr.heap.size ≤ q ∧ q < W2.heap.size) pre s seen rest := by
 have hD : ∀ D, Fr D wr W2 := fun D => hf.imp (fun _ _ e => e.elim)
 have hsz := hf.size
 have hn₀ : n₀ ≤ wr.heap.size := by have := h.z ib h.zi.1; omega
 refine ⟨hJ _ _ _ _ h.j (hD _), ?_, ⟨.inl h.zi.1, .inl h.zi.2.1, .inl h.zi.2.2⟩, ⟨(hf.cell (p := ⟨ib, 0, none⟩) (h.z ib h.zi.1).2 (fun e => e)).trans h.box.1, (hf.cell (p := ⟨bb, 0, none⟩) (h.z bb h.zi.2.1).2 (fun e => e)).trans h.box.2⟩, ownsRow_fr h.pop hf (fun _ _ e => e), fun q e => ?_, h.sne, h.mp.fr hf (fun e => e), fun x hx => h.top x (by simp [hx]), by rw [← hw]; exact h.run, h.all, by have := h.cnt; omega, h.fr.trans (hD _)⟩
 ·
  rintro q (hq | hq)
  ·
   have := h.z q hq; exact ⟨this.1, by omega⟩
  ·
   exact ⟨by omega, hq.2⟩
 ·
  have := h.vz q e
  exact ⟨.inl this.1, this.2⟩
theorem WkSt.row (h : WkSt M n₀ ib bb sb id ab F xs J w0 (f + 1) (.slice (some ⟨g, 0, none⟩) (s.length + 1) z) wr Z pre (i :: s) seen rest) (hf3 : Fr (fun q => q = sb) wr W3) (hk4 : Fr (fun q => n₀ ≤ q ∧ ¬ (Z q ∨ wr.heap.size ≤ q ∧ q < W3.heap.size)) W3 W4)
 {kb : Nat → Prop} (hkb : ∀ q, kb q → wr.heap.size ≤ q ∧ q < W3.heap.size) (hf5 : Fr kb W4 W5) : W5.ownsRow n₀ 45 1 (.slice (some ⟨g, 0, none⟩) s.length z) s.length (s.reverse.map idV) := by
 have hgz := h.vz g rfl
 have hgl := h.z g hgz.1
 obtain ⟨es, ck, hm⟩ := h.mp.obj
 have hgs : g ≠ sb := fun e => by
  rcases own_not_map h.own hm with h' | h'
  ·
   cases h'
  ·
   exact h' (by rw [← e]; rfl)
 refine ownsRow_fr (ownsRow_fr (ownsRow_fr h.pop hf3 (fun q e e' => ?_)) hk4 (fun q e e' => ?_)) hf5 (fun q e e' => ?_)
 ·
  injection e with e; exact hgs (e.trans e')
 ·
  injection e with e; have e : g = q := e; subst e; exact e'.2 (.inl hgz.1)
 ·
  injection e with e; have e : g = q := e; subst e; have := hkb _ e'; omega
theorem WkSt.next (h : WkSt M n₀ ib bb sb id ab F xs J w0 (f + 1) (.slice (some ⟨g, 0, none⟩) (s.length + 1) z) wr Z pre (i :: s) seen rest) (hJ : ∀ Z pre A B, J Z pre A → Fr Z A B → J (fun q => Z q ∨ A.heap.size ≤ q ∧ q < B.heap.size) pre B)
 {nd : Hg.Node} (hM : M i = some nd) (hi : i ∉ seen) (hk : ∀ k ∈ nd.kids, k < idTop) (x : WItem) (hx : x.strip = (i, nd)) (hf3 : Fr (fun q => q = sb) wr W3) (hm3 : IMap W3 sb (seenM (i :: seen)))
 (hJ4 : J (fun q => Z q ∨ wr.heap.size ≤ q ∧ q < W3.heap.size) (pre ++ [x]) W4) (hk4 : Fr (fun q => n₀ ≤ q ∧ ¬ (Z q ∨ wr.heap.size ≤ q ∧ q < W3.heap.size)) W3 W4)
 {kb : Nat → Prop} (hkb : ∀ q, kb q → wr.heap.size ≤ q ∧ q < W3.heap.size) (hf5 : Fr kb W4 W5) {v' : Value} (own6 : W6.ownsRow n₀ 45 1 v' (s.length + nd.kids.length) (s.reverse.map idV ++ nd.kids.reverse.map idV)) (g6 : W5.grownBy W6 (some g)) (at6 : v'.ownBlock = some g ∨ v'.ownBlock = some W5.heap.size) :
 ∃ Z' rest', WkSt M n₀ ib bb sb id ab F xs J w0 f v' W6 Z' (pre ++ [x]) (nd.kids ++ s) (i :: seen) rest' := by
 have hgz := h.vz g rfl
 have hgl := h.z g hgz.1
 have hn₀ : n₀ ≤ wr.heap.size := by have := h.z ib h.zi.1; omega
 obtain ⟨es, ck, hm⟩ := h.mp.obj
 have hgs : g ≠ sb := fun e => by
  rcases own_not_map h.own hm with h' | h'
  ·
   cases h'
  ·
   exact h' (by rw [← e]; rfl)
 have s3 := hf3.size; have s4 := hk4.size; have s5 := hf5.size; have s6 := g6.size
 have hf6 : Fr (fun q => q = g) W5 W6 := Fr.of_grown g6 (fun q e => by injection e with e; exact e.symm)
 have hf46 : Fr (fun q => Z q ∨ wr.heap.size ≤ q ∧ q < W3.heap.size) W4 W6 := (hf5.imp (fun q _ e => .inr (hkb q e))).then_ hf6 (fun q _ e => by subst e; exact .inl hgz.1)
 have hzi := (h.z ib h.zi.1).2
 have hzb := (h.z bb h.zi.2.1).2
 have hzs := (h.z sb h.zi.2.2).2
 have hcell : ∀ q, q < wr.heap.size → Z q → q ≠ sb → q ≠ g → W6.heap[q]? = wr.heap[q]? := fun q hq hz h1 h2 =>
  (hf6.block q (by omega) h2).trans ((hf5.block q (by omega) (fun e => by have := hkb q e; omega)).trans ((hk4.block q (by omega) (fun e => e.2 (.inl hz))).trans (hf3.block q hq h1)))
 have hrun := h.run
 rw [Hg.wk_cons, hM] at hrun
 dsimp only at hrun
 rw [if_neg hi] at hrun
 cases hr : wk M f (nd.kids ++ s) (i :: seen) with
 | none => rw [hr] at hrun; cases hrun
 | some rest' =>
   rw [hr] at hrun
   have hrun : (i, nd) :: rest' = rest := Option.some.inj hrun
   refine ⟨_, rest', hJ _ _ _ _ hJ4 hf46, ?_, ⟨.inl (.inl h.zi.1), .inl (.inl h.zi.2.1), .inl (.inl h.zi.2.2)⟩, ⟨?_, ?_⟩, ?_, fun q e => ?_, h.sne, ?_, fun y hy => ?_, hr, ?_, ?_, ?_⟩
   ·
    rintro q ((hq | hq) | hq)
    ·
     have := h.z q hq; exact ⟨this.1, by omega⟩
    ·
     exact ⟨by omega, by omega⟩
    ·
     exact ⟨by omega, by omega⟩
   ·
    exact (World.cell?_of_block (a := ⟨ib, 0, none⟩) (hcell ib hzi h.zi.1 (fun e => h.sne.1 e.symm) (fun e => hgz.2.1 e.symm))).trans h.box.1
   ·
    exact (World.cell?_of_block (a := ⟨bb, 0, none⟩) (hcell bb hzb h.zi.2.1 (fun e => h.sne.2 e.symm) (fun e => hgz.2.2 e.symm))).trans h.box.2
   ·
    have e1 : (nd.kids ++ s).length = s.length + nd.kids.length := by simp [Nat.add_comm]
    have e2 : (nd.kids ++ s).reverse.map idV = s.reverse.map idV ++ nd.kids.reverse.map idV := by simp
    rw [e1, e2]
    exact own6
   ·
    rcases at6 with h' | h'
    ·
     rw [h'] at e
     injection e with e
     subst e
     exact ⟨.inl (.inl hgz.1), hgz.2⟩
    ·
     have hq := own6.lt q e
     rw [h'] at e
     injection e with e
     exact ⟨.inr ⟨by omega, hq.2⟩, by omega, by omega⟩
   ·
    have h4 := hm3.fr hk4 (fun e => e.2 (.inl h.zi.2.2))
    have h5 := h4.fr hf5 (fun e => by have := hkb sb e; omega)
    exact h5.fr hf6 (fun e => hgs e.symm)
   ·
    rcases List.mem_append.1 hy with hy | hy
    ·
     exact hk y hy
    ·
     exact h.top y (by simp [hy])
   ·
    rw [List.map_append, List.append_assoc]
    show pre.map WItem.strip ++ ([x.strip] ++ rest') = xs
    rw [hx, ← h.all, ← hrun]
    rfl
   ·
    have := h.cnt; simp; omega
   ·
    refine (((h.fr.then_ hf3 (fun q hq e => by subst e; exact (h.z q h.zi.2.2).1)).then_ hk4 (fun q _ e => e.1)).then_ hf5 (fun q hq e => by have := hkb q e; omega)).then_ hf6 (fun q _ e => by subst e; exact hgl.1)
end
set_option maxHeartbeats 4000000 in
set_option maxRecDepth 100000 in
theorem walk_seq (ab mb c : Nat) (M : Nat → Option Hg.Node) (n₀ id ib bb F : Nat) (xs : List (Nat × Hg.Node)) (w0 : World) (hAr : ∀ W', Fr (fun q => n₀ ≤ q) w0 W' → ArAt W' ab mb c M) (hib : w0.cell? ⟨ib, 0, none⟩ = some (idV id)) (hbb : w0.cell? ⟨bb, 0, none⟩ = some (.pointer (some ⟨ab, 0, none⟩)))
 (hlt : n₀ ≤ ib ∧ n₀ ≤ bb ∧ ib < w0.heap.size ∧ bb < w0.heap.size) (hid : id < idTop) (hk : ∀ i nd, M i = some nd → ∀ k ∈ nd.kids, k < idTop) (hxs : wk M F [id] [] = some xs) (hF : F ≤ 1000000) :
 SeqW Tryz.prog 92 #[.pointer (some ⟨ib, 0, none⟩), .pointer (some ⟨bb, 0, none⟩)] (fun q => q = ib ∨ q = bb) n₀ xs w0 := by
 intro m l J Jx W hW hJ hY h0
 obtain ⟨j0, hj, hj0, hj1, hj2⟩ := info_parts idInfo30
 have hzb : ∀ W : World, (zeroValue 4).run Tryz.prog W = .ok (.bool false) W := fun W => by kernel_rfl
 have hmm := @run_makeMap Tryz.prog
 refine callsIn_of_wp Tryz.func92 rfl trivial ?_ rfl
 simp only [Tryz.ntmps92, List.size_toArray, List.length_cons, List.length_nil, Nat.reduceAdd, Nat.reduceSub, Array.replicate_succ, Array.replicate_zero, List.push_toArray, List.append_toArray, List.nil_append, List.cons_append]
 have ci : W.cell? ⟨ib, 0, none⟩ = some (idV id) := (hW.cell (p := ⟨ib, 0, none⟩) hlt.2.2.1 (fun h => h.2 (.inl rfl))).trans hib
 have cb : W.cell? ⟨bb, 0, none⟩ = some (.pointer (some ⟨ab, 0, none⟩)) := (hW.cell (p := ⟨bb, 0, none⟩) hlt.2.2.2 (fun h => h.2 (.inr rfl))).trans hbb
 have hli : ib < W.heap.size := Nat.lt_of_lt_of_le hlt.2.2.1 hW.size
 have hlb : bb < W.heap.size := Nat.lt_of_lt_of_le hlt.2.2.2 hW.size
 gi_wp2
 have hst : ∃ Z pre stack seen rest, WkSt M n₀ ib bb W.heap.size id ab F xs J w0 F (.slice (some ⟨W.heap.size + 1, 0, none⟩) 1 1) ((W.alloc (.map #[] 0)).alloc (.cells #[idV id] 45)) Z pre stack seen rest := by
  have hfr : ∀ D, Fr D W ((W.alloc (.map #[] 0)).alloc (.cells #[idV id] 45)) := fun D => ((Fr.refl D W).alloc _).alloc _
  have hn := heap_alloc_new (W.alloc (.map #[] 0)) (.cells #[idV id] 45)
  rw [show (W.alloc (.map #[] 0)).heap.size = W.heap.size + 1 by simp] at hn
  refine ⟨_, [], [id], [], xs, hJ _ _ _ _ h0 (hfr _), ?_, ⟨.inl (.inl rfl), .inl (.inr rfl), .inr ⟨Nat.le_refl _, by simp; omega⟩⟩, ⟨((hfr (fun _ => False)).cell (p := ⟨ib, 0, none⟩) hli (fun h => h)).trans ci, ((hfr (fun _ => False)).cell (p := ⟨bb, 0, none⟩) hlb (fun h => h)).trans cb⟩,
   ⟨rfl, .inr ⟨W.heap.size + 1, 1, #[idV id], rfl, by omega, hn, Nat.le_refl _, by unfold maxLen; omega, rfl, rfl⟩⟩, ?_, ⟨by omega, by omega⟩, (XMap.made 45 idV W).keep (heap_alloc_old _ _ (by simp)), fun x hx => (by simp at hx; subst hx; exact hid), hxs, rfl, by simp, (hW.imp (fun q _ h => h.1)).trans (hfr _)⟩
  ·
   rintro q ((h | h) | h)
   ·
    subst h; exact ⟨hlt.1, by simp; omega⟩
   ·
    subst h; exact ⟨hlt.2.1, by simp; omega⟩
   ·
    exact ⟨by omega, by simpa using h.2⟩
  ·
   intro q e
   injection e with e
   have e : W.heap.size + 1 = q := e
   subst e
   exact ⟨.inr ⟨by omega, by simp⟩, by omega, by omega⟩
 have HST := Lib.hid hst
 have HJ := Lib.hid hJ
 have HY := Lib.hid hY
 have HAR := Lib.hid hAr
 have HK := Lib.hid hk
 clear hst hJ hY hAr hk hW h0 ci cb hib hbb hxs hid
 generalize W.heap.size = sb at HST ⊢
 generalize World.alloc (World.alloc W _) _ = W1 at HST ⊢
 clear hli hlb
 gi_loopw [5] (fun p wr => ∃ v, p = v ∧ ∃ f Z pre stack seen rest, WkSt M n₀ ib bb sb id ab F xs J w0 f v wr Z pre stack seen rest) (fun v wr => Hg.least (fun f => ∃ Z pre stack seen rest, WkSt M n₀ ib bb sb id ab F xs J w0 f v wr Z pre stack seen rest))
 case atStart => exact ⟨_, rfl, F, HST.out⟩
 case round =>
  obtain ⟨v, hv, hrel⟩ := hrel
  have hv := hv.symm
  subst hv
  have hl := Hg.least_spec hrel
  clear hrel HST
  generalize hf0 : Hg.least _ = f at hl
  have HF0 := Lib.hid hf0
  clear hf0
  obtain ⟨Z, pre, stack, seen, rest, hS⟩ := hl
  have HS := Lib.hid hS
  cases stack with
  | nil =>
    have hown := hS.own
    have hv0 : ∃ a cc, v = .slice a 0 cc := by
     obtain ⟨a, cc, e⟩ := (Sl.of_own hown).form
     exact ⟨a, cc, e⟩
    obtain ⟨a, cc, rfl⟩ := hv0
    clear hS hown
    gi_wp2
    go_end0
    refine ⟨⟨_, rfl⟩, .inl ⟨Z, pre, ?_, HS.out.j⟩⟩
    have h1 := HS.out.run
    have h2 := HS.out.all
    cases f with
    | zero => cases h1
    | succ f =>
      rw [Hg.wk_nil] at h1
      injection h1 with h1
      subst h1
      simpa using h2
  | cons i s =>
    have hown := hS.own
    obtain ⟨g, z, rfl⟩ := ownsRow_succ (k := s.length) (show wr.ownsRow n₀ 45 1 v (s.length + 1) _ from hown)
    have hlen : s.length + 1 ≤ 1000000 := by
     have h1 := Hg.wk_len M f _ _ _ hS.run
     have h2 := hS.cnt
     simp at h1
     omega
    have kc : wr.cell? ⟨g, s.length, none⟩ = some (idV i) := by
     rw [hown.cellAt s.length (by simp)]
     simp
    have hcap : s.length + 1 ≤ z := (by obtain ⟨c9, e, h, _⟩ := own_form hown rfl; injection e with _ _ e; simp at h; omega)
    have hcap2 : s.length ≤ z := by omega
    have hks : IntKind.i64.wrap (((s.length + 1 : Nat) : Int) - 1) = (s.length : Int) := by rw [IntWalk.i64_in _ (by omega)]; omega
    have hks2 : IntKind.i64.wrap (s.length : Int) = (s.length : Int) := IntWalk.i64_in _ (by omega)
    have hit := hS.top i (by simp)
    have hbb := hS.box.2
    have TG := Lib.hid (getO_any ab mb c M i wr (HAR.out wr hS.fr) hit)
    cases f with
    | zero => exact absurd hS.run (by intro h; cases h)
    | succ f =>
    have hszr : ∀ q, Z q → q < wr.heap.size := fun q hq => (hS.z q hq).2
    have hgetn : ∀ (o : Option Hg.Node), M i = o → Calls Tryz.prog 33 #[.pointer (some ⟨ab, 0, none⟩), .int .u64 (i : Int)] wr (GetResO wr o) := fun o h => h ▸ TG.out
    clear hS hown TG
    cases hM : M i with
    | none =>
      have TG := Lib.hid (hgetn none hM)
      clear hgetn
      gi_wp2_with fail
      refine ⟨trivial, fun h => (by cases h), (callsIn_wide.2 TG.out).mono ?_⟩
      rintro e w1 ⟨ka, kc1, rfl, ho1, hb1⟩
      have HF1 := Lib.hid (Fr.of_below (D := fun _ => False) hb1)
      clear ho1 hb1 TG kc hbb
      gi_wp2
      go_roundw
      case rel => exact ⟨_, rfl, f, _, _, _, _, _, HS.out.skip HJ.out (HF1.out.alloc _) (by rw [Hg.wk_cons, hM])⟩
      case measure =>
       rw [HF0.out]
       refine Nat.lt_succ_of_le (Hg.least_le ?_)
       exact ⟨_, _, _, _, _, HS.out.skip HJ.out (HF1.out.alloc _) (by rw [Hg.wk_cons, hM])⟩
    | some nd =>
      have TG := Lib.hid (hgetn (some nd) hM)
      have hmp := HS.out.mp
      have hsb := (HS.out.z sb HS.out.zi.2.2).2
      clear hgetn
      gi_wp2_with fail
      refine ⟨trivial, fun h => (by cases h), (callsIn_wide.2 TG.out).mono ?_⟩
      rintro e w1 ⟨ka, kc1, rfl, ho1, hb1⟩
      have HF1 := Lib.hid (Fr.of_below (D := fun _ => False) hb1)
      have HO1 := Lib.hid ho1
      have hsz1 : wr.heap.size ≤ w1.heap.size := hb1.size
      have hm1 : IMap (w1.alloc (.cells #[.int .u8 (nd.kind : Int), strV nd.name, .int .i64 nd.num, .int .u8 (nd.type : Int), .int .u64 (nd.ref : Int), .slice ka nd.kids.length kc1] 70)) sb (seenM seen) := hmp.fr (HF1.out.alloc _) (fun e => e)
      have hlk := hm1.look (x := i) (t := 138) keyedId Tryz.underlying138 (hzb _) ⟨_, keyOf_id hit⟩
      unfold seenM at hlk
      rw [Hg.gl_key] at hlk
      clear ho1 hb1 TG kc hbb hmp
      by_cases hi : i ∈ seen
      ·
       rw [if_pos hi] at hlk
       replace hlk : (Instr.lookup 138 (.map (some sb)) (.int .u64 (i : Int)) false).run Tryz.prog (w1.alloc (.cells #[.int .u8 (nd.kind : Int), strV nd.name, .int .i64 nd.num, .int .u8 (nd.type : Int), .int .u64 (nd.ref : Int), .slice ka nd.kids.length kc1] 70)) = .ok (.bool true) _ := hlk
       clear hm1
       gi_wp2
       go_roundw
       case rel => exact ⟨_, rfl, f, _, _, _, _, _, HS.out.skip HJ.out (HF1.out.alloc _) (by rw [Hg.wk_cons, hM]; simp [hi])⟩
       case measure =>
        rw [HF0.out]
        refine Nat.lt_succ_of_le (Hg.least_le ?_)
        exact ⟨_, _, _, _, _, HS.out.skip HJ.out (HF1.out.alloc _) (by rw [Hg.wk_cons, hM]; simp [hi])⟩
      ·
       rw [if_neg hi] at hlk
       replace hlk : (Instr.lookup 138 (.map (some sb)) (.int .u64 (i : Int)) false).run Tryz.prog (w1.alloc (.cells #[.int .u8 (nd.kind : Int), strV nd.name, .int .i64 nd.num, .int .u8 (nd.type : Int), .int .u64 (nd.ref : Int), .slice ka nd.kids.length kc1] 70)) = .ok (.bool false) _ := hlk
       obtain ⟨W3, hrun3, hU3, hg3⟩ := hm1.put (t := 138) keyedId Tryz.underlying138 (fun x y h => by injection h with _ h; exact Int.ofNat.inj h) (by have := HS.out.cnt; unfold seenM; simp; omega) i ⟨_, keyOf_id hit⟩ (.bool true)
       have hnw := heap_alloc_new w1 (.cells #[.int .u8 (nd.kind : Int), strV nd.name, .int .i64 nd.num, .int .u8 (nd.type : Int), .int .u64 (nd.ref : Int), .slice ka nd.kids.length kc1] 70)
       have hb3 : W3.heap[w1.heap.size]? = some (.cells #[.int .u8 (nd.kind : Int), strV nd.name, .int .i64 nd.num, .int .u8 (nd.type : Int), .int .u64 (nd.ref : Int), .slice ka nd.kids.length kc1] 70 (0, 0)) := (hg3.block w1.heap.size (by simp) (fun e => by injection e with e; omega)).trans hnw
       have hf3a : Fr (fun q => q = sb) wr (w1.alloc (.cells #[.int .u8 (nd.kind : Int), strV nd.name, .int .i64 nd.num, .int .u8 (nd.type : Int), .int .u64 (nd.ref : Int), .slice ka nd.kids.length kc1] 70)) := (HF1.out.alloc _).imp (fun _ _ e => e.elim)
       have HF3 := Lib.hid (hf3a.step hg3 (fun q e => by injection e with e; exact .inl e.symm))
       have hsz3 : w1.heap.size + 1 ≤ W3.heap.size := by have := hg3.size; simpa using this
       have HO3 := Lib.hid (show W3.ownsRow wr.heap.size 45 1 (.slice ka nd.kids.length kc1) nd.kids.length (nd.kids.map idV) from ownsRow_fr (HO1.out.alloc _) (Fr.of_grown hg3 (fun q e => by injection e with e; exact e.symm) : Fr (fun q => q = sb) _ _) (fun q e e' => by have := (HO1.out.lt q e).1; omega))
       have HU3 := Lib.hid hU3
       replace hrun3 : (Instr.mapUpdate 138 (.map (some sb)) (.int .u64 (i : Int)) (.bool true)).run Tryz.prog (w1.alloc (.cells #[.int .u8 (nd.kind : Int), strV nd.name, .int .i64 nd.num, .int .u8 (nd.type : Int), .int .u64 (nd.ref : Int), .slice ka nd.kids.length kc1] 70)) = .ok () W3 := hrun3
       have hJ3 := HJ.out _ _ _ _ HS.out.j (HF3.out.imp (D' := Z) (fun q _ e => by subst e; exact HS.out.zi.2.2))
       have hpre : (pre ++ [(⟨i, nd, ka, kc1⟩ : WItem)]).map WItem.strip <+: xs := by
        have hrun := HS.out.run
        have hall := HS.out.all
        rw [Hg.wk_cons, hM] at hrun
        dsimp only at hrun
        rw [if_neg hi] at hrun
        cases hr : wk M f (nd.kids ++ s) (i :: seen) with
        | none => rw [hr] at hrun; cases hrun
        | some rest' =>
          rw [hr] at hrun
          have hrun : (i, nd) :: rest' = rest := Option.some.inj hrun
          exact ⟨rest', by rw [← hall, ← hrun]; simp [WItem.strip]⟩
       obtain ⟨fn, tmps, assign, body, hy, hR⟩ := HY.out _ pre ⟨i, nd, ka, kc1⟩ W3 hJ3 (fun q hq => by
        rcases hq with hq | hq
        ·
         have := hszr q hq; omega
        ·
         exact hq.2) hpre (Sl.of_own HO3.out) (fun q hq => .inr (HO3.out.lt q hq))
       dsimp only [WItem.enc] at hy
       have e0 := cell_of_row W3 w1.heap.size 0 _ _ (0, 0) hb3
       have e1 := cell_of_row W3 w1.heap.size 1 _ _ (0, 0) hb3
       have e2 := cell_of_row W3 w1.heap.size 2 _ _ (0, 0) hb3
       have e3 := cell_of_row W3 w1.heap.size 3 _ _ (0, 0) hb3
       have e4 := cell_of_row W3 w1.heap.size 4 _ _ (0, 0) hb3
       have e5 := cell_of_row W3 w1.heap.size 5 _ _ (0, 0) hb3
       simp at e0 e1 e2 e3 e4 e5
       clear hm1 hU3 hg3 hnw hf3a hJ3
       gi_wp2
       refine ⟨fun h => (by cases h), hR.mono ?_⟩
       rintro e W4 (⟨rfl, hJ4, hk4⟩ | ⟨rfl, hJx4⟩)
       ·
        have hl5 : nd.kids.length ≤ 1000000 := by
         have := (HAR.out wr HS.out.fr).map.len i
         rw [hM] at this
         exact this
        have hkb : ∀ q, (Value.slice ka nd.kids.length kc1).ownBlock = some q → wr.heap.size ≤ q ∧ q < W3.heap.size := fun q e => by have := HO1.out.lt q e; omega
        have HKB := Lib.hid hkb
        have hb4 : W4.heap[w1.heap.size]? = W3.heap[w1.heap.size]? := hk4.block _ (by omega) (fun e => e.2 (.inr ⟨by omega, by omega⟩))
        have HO4 := Lib.hid (show W4.ownsRow wr.heap.size 45 1 (.slice ka nd.kids.length kc1) nd.kids.length (nd.kids.map idV) from ownsRow_fr HO3.out hk4 (fun q e e' => e'.2 (.inr (hkb q e))))
        have d5 : W4.cell? ⟨w1.heap.size, 5, none⟩ = some (.slice ka nd.kids.length kc1) := (World.cell?_of_block (a := ⟨w1.heap.size, 5, none⟩) hb4).trans e5
        have TR := Lib.hid (reverse_any wr.heap.size _ nd.kids W4 hl5 HO4.out)
        have HJ4 := Lib.hid hJ4
        have HK4 := Lib.hid hk4
        have hz4 : W3.heap.size ≤ W4.heap.size := hk4.size
        clear hy hR hJ4 hk4 e0 e1 e2 e3 e4 e5 hlk hrun3 hkb
        gi_wp2_with fail
        refine ⟨trivial, fun h => (by cases h), (callsIn_wide.2 TR.out).mono ?_⟩
        rintro e W5 ⟨rfl, ho5, hf5⟩
        have hb5 : W5.heap[w1.heap.size]? = W4.heap[w1.heap.size]? := hf5.block _ (by omega) (fun e => by have := HO1.out.lt _ e; omega)
        have c5 : W5.cell? ⟨w1.heap.size, 5, none⟩ = some (.slice ka nd.kids.length kc1) := (World.cell?_of_block (a := ⟨w1.heap.size, 5, none⟩) hb5).trans d5
        have HROW := Lib.hid (HS.out.row HF3.out HK4.out HKB.out hf5)
        have HF5 := Lib.hid hf5
        have HO5 := Lib.hid ho5
        have hz5 : W4.heap.size ≤ W5.heap.size := hf5.size
        have hn5 : n₀ ≤ W5.heap.size := by have := HS.out.z ib HS.out.zi.1; omega
        clear hf5 ho5 hb5 hb4 d5 TR
        gi_wp2_with (gi_at_builtin; refine wpListIn_append_sl _ rfl (.tmp 49) (.tmp 51) _ rfl n₀ 45 j0 _ 8 Tryz.underlying68 hj hj0 hj1 hj2 rfl _ s.length (s.reverse.map idV) rfl HROW.out W5.heap.size _ nd.kids.length (nd.kids.reverse.map idV) rfl (Sl.of_own HO5.out) ?_ (ids_one _) ?_ ?_ ?_ ?_)
        ·
         simp
        ·
         unfold maxLen; omega
        ·
         omega
        ·
         exact hn5
        intro v6 W6 own6 g6 at6
        rw [← List.map_reverse, ← List.map_reverse] at own6
        obtain ⟨Z6, rest6, hS6⟩ := HS.out.next HJ.out hM hi (HK.out i nd hM) ⟨i, nd, ka, kc1⟩ rfl HF3.out HU3.out HJ4.out HK4.out HKB.out HF5.out own6 g6 at6
        have HS6 := Lib.hid hS6
        clear own6 g6 at6 hS6
        gi_wp2
        go_roundw
        case rel => exact ⟨_, rfl, f, _, _, _, _, _, HS6.out⟩
        case measure =>
         rw [HF0.out]
         refine Nat.lt_succ_of_le (Hg.least_le ?_)
         exact ⟨_, _, _, _, _, HS6.out⟩
       ·
        gi_wp2
        refine bodyPost_ret (results_none rfl _ _ _) rfl ?_
        exact ⟨⟨_, rfl⟩, .inr ⟨_, hpre, hJx4⟩⟩
end Go.Proofs.YtoelmnamlnbdhaaGreatDoor
namespace Hg
def isK (M : Nat → Option Node) (kind : Nat) (k : Nat) : Bool := match M k with | some n => n.kind == kind | none => false
def ndAt (M : Nat → Option Node) (id : Nat) : Node := (M id).getD Node.zero
def kidsK (M : Nat → Option Node) (id kind : Nat) : List Nat := (ndAt M id).kids.filter (isK M kind)
end Hg
namespace Go.Proofs.YtoelmnamlnbdhaaGreatDoor
open Go.RowKit
open Hg (GT gl wk isK ndAt kidsK)
set_option maxHeartbeats 4000000 in
set_option maxRecDepth 100000 in
theorem walk_any (ab id : Nat) (w : World) : Calls Tryz.prog 55 #[.pointer (some ⟨ab, 0, none⟩), idV id] w fun e w' => e = .returned (.func (.func 92) #[] #[.pointer (some ⟨w.heap.size + 1, 0, none⟩), .pointer (some ⟨w.heap.size, 0, none⟩)]) ∧ w' = (w.alloc (.cells #[.pointer (some ⟨ab, 0, none⟩)] 24)).alloc (.cells #[idV id] 45) := by
 go_enter Tryz.func55, Tryz.ntmps55
 go_wp2
 go_ret
 exact ⟨rfl, rfl⟩
set_option maxHeartbeats 4000000 in
theorem root_any (ab : Nat) (w : World) : Calls Tryz.prog 56 #[.pointer (some ⟨ab, 0, none⟩)] w fun e w' => e = .returned (idV 1) ∧ w' = w := by
 go_enter Tryz.func56, Tryz.ntmps56
 go_wp2
 go_ret
 exact ⟨rfl, rfl⟩
theorem boxed_node {w1 : World} (nd : Hg.Node) (ka : Option Addr) (kc : Nat) : ∀ i, ((w1.alloc (.cells #[.int .u8 (nd.kind : Int), strV nd.name, .int .i64 nd.num, .int .u8 (nd.type : Int), .int .u64 (nd.ref : Int), .slice ka nd.kids.length kc] 70)).cell? ⟨w1.heap.size, i, none⟩) = (#[.int .u8 (nd.kind : Int), strV nd.name, .int .i64 nd.num, .int .u8 (nd.type : Int), .int .u64 (nd.ref : Int), .slice ka nd.kids.length kc] : Array Value)[i]? := fun i => cell_of_row _ w1.heap.size i _ _ (0, 0) (heap_alloc_new w1 _)
set_option maxHeartbeats 4000000 in
set_option maxRecDepth 100000 in
theorem kid1_any (ab mb c : Nat) (M : Nat → Option Hg.Node) (x kind b1 b2 : Nat) (w : World) (hA : ArAt w ab mb c M) (h1 : w.cell? ⟨b1, 0, none⟩ = some (.pointer (some ⟨ab, 0, none⟩))) (h2 : w.cell? ⟨b2, 0, none⟩ = some (.int .u8 (kind : Int))) (hb2 : b2 < w.heap.size) (hx : x < idTop) :
 Calls Tryz.prog 73 #[idV x, .pointer (some ⟨b1, 0, none⟩), .pointer (some ⟨b2, 0, none⟩)] w fun e w' => e = .returned (.bool (!isK M kind x)) ∧ Below w.heap.size w w' := by
 have hget : ∀ o, M x = o → Calls Tryz.prog 33 #[.pointer (some ⟨ab, 0, none⟩), .int .u64 (x : Int)] w (GetResO w o) := fun o h => h ▸ getO_any ab mb c M x w hA hx
 unfold isK
 cases hM : M x with
 | none =>
   have TG := Lib.hid (hget none hM)
   clear hget hA
   go_enter Tryz.func73, Tryz.ntmps73
   go_wp2_with fail
   refine TG.out.mono ?_
   rintro e w1 ⟨ka, kc, rfl, ho1, hb1⟩
   have HB := Lib.hid hb1
   clear ho1 hb1 TG
   go_wp2
   go_ret
   exact ⟨rfl, HB.out.alloc HB.out.size _⟩
 | some nd =>
   have TG := Lib.hid (hget (some nd) hM)
   clear hget hA
   go_enter Tryz.func73, Tryz.ntmps73
   go_wp2_with fail
   refine TG.out.mono ?_
   rintro e w1 ⟨ka, kc, rfl, ho1, hb1⟩
   have HB := Lib.hid hb1
   have d2 : w1.cell? ⟨b2, 0, none⟩ = some (.int .u8 (kind : Int)) := (hb1.cell hb2).trans h2
   have hb3 : b2 < w1.heap.size := Nat.lt_of_lt_of_le hb2 hb1.size
   have hq : ((nd.kind : Int) != (kind : Int)) = !(nd.kind == kind) := by
    by_cases e : nd.kind = kind
    ·
     subst e; simp
    ·
     have h1 : (nd.kind == kind) = false := by simpa using e
     have h2 : ((nd.kind : Int) != (kind : Int)) = true := by simp; omega
     rw [h1, h2]; rfl
   clear ho1 hb1 TG
   go_wp2
   go_ret
   refine ⟨?_, HB.out.alloc HB.out.size _⟩
   first | rfl | (simp [hq]; done) | (rw [hq])
set_option maxHeartbeats 4000000 in
set_option maxRecDepth 100000 in
theorem idxF_any (ab mb c : Nat) (M : Nat → Option Hg.Node) (kind b1 b2 : Nat) (v : Value) (xs : List Nat) (B : Nat) (w : World) (hA : ArAt w ab mb c M) (h1 : w.cell? ⟨b1, 0, none⟩ = some (.pointer (some ⟨ab, 0, none⟩))) (h2 : w.cell? ⟨b2, 0, none⟩ = some (.int .u8 (kind : Int))) (hb1 : b1 < w.heap.size) (hb2 : b2 < w.heap.size) (hx : ∀ x ∈ xs, x < idTop)
 (hs : Sl w w.heap.size v xs.length (xs.map idV)) (hl : xs.length ≤ 1000000) :
 Calls Tryz.prog 108 #[v, .func (.func 73) #[] #[.pointer (some ⟨b1, 0, none⟩), .pointer (some ⟨b2, 0, none⟩)]] w fun e w' => (∃ r : Int, e = .returned (.int .i64 r) ∧ ((r = -1 ∧ ∀ x ∈ xs, isK M kind x = true) ∨ ∃ i : Nat, r = (i : Int) ∧ ∃ x, xs[i]? = some x ∧ isK M kind x = false ∧ ∀ j y, j < i → xs[j]? = some y → isK M kind y = true)) ∧ Below w.heap.size w w' := by
 have HS := Lib.hid hs
 have HA := Lib.hid hA
 obtain ⟨a, cc, rfl⟩ := hs.form
 have HC := Lib.hid (And.intro h1 h2)
 have HX := Lib.hid hx
 clear hs hA h1 h2 hx
 go_enter Tryz.func108, Tryz.ntmps108
 go_wp2
 go_loopw [8] (fun p wr => ∃ k : Nat, p = .int .i64 (k : Int) ∧ k ≤ xs.length ∧ Below w.heap.size w wr ∧ ∀ j y, j < k → xs[j]? = some y → isK M kind y = true) (fun p wr => xs.length - (intOf p).toNat)
 case atStart => exact ⟨0, rfl, Nat.zero_le _, Below.refl _ _, fun j y hj => by omega⟩
 case round =>
  obtain ⟨k, rfl, hk, hb, hno⟩ := hrel
  have HN := Lib.hid hno
  have HB := Lib.hid hb
  clear hno hb
  by_cases hlt : k < xs.length
  ·
   obtain ⟨b, o, rfl, _, kc⟩ := (HS.out.below HB.out (Nat.le_refl _)).mapAt hlt
   have hm : xs[k] ∈ xs := List.getElem_mem hlt
   have TI := Lib.hid (kid1_any ab mb c M xs[k] kind b1 b2 wr (HA.out.below HB.out (Nat.le_refl _)) ((HB.out.cell hb1).trans HC.out.1) ((HB.out.cell hb2).trans HC.out.2) (Nat.lt_of_lt_of_le hb2 HB.out.size) (HX.out _ hm))
   have hy := List.getElem?_eq_getElem hlt
   generalize xs[k] = y at kc TI hy
   have HY := Lib.hid hy
   clear hm hy
   cases hp : isK M kind y with
   | false =>
     rw [hp] at TI
     have HP := Lib.hid hp
     clear hp
     go_wp2_with fail
     refine TI.out.mono ?_
     rintro e w1 ⟨rfl, hb9⟩
     have HB1 := Lib.hid (HB.out.trans (hb9.mono HB.out.size))
     clear TI hb9
     go_wp2
     go_ret
     exact ⟨⟨(k : Int), rfl, .inr ⟨k, rfl, y, HY.out, HP.out, HN.out⟩⟩, HB1.out⟩
   | true =>
     rw [hp] at TI
     have HP := Lib.hid hp
     clear hp
     go_wp2_with fail
     refine TI.out.mono ?_
     rintro e w1 ⟨rfl, hb9⟩
     have HB1 := Lib.hid (HB.out.trans (hb9.mono HB.out.size))
     clear TI hb9
     go_wp2
     go_roundw
     case rel => exact ⟨k + 1, by go_num, by omega, HB1.out, fun j z hj hz => by
      by_cases e : j = k
      ·
       subst e; rw [HY.out] at hz; injection hz with hz; rw [← hz]; exact HP.out
      ·
       exact HN.out j z (by omega) hz⟩
     case measure => simp [intOf]; omega
  ·
   obtain rfl : k = xs.length := by omega
   go_wp2
   go_ret
   refine ⟨⟨-1, rfl, .inl ⟨rfl, fun x hx => ?_⟩⟩, HB.out⟩
   obtain ⟨j, hj, he⟩ := List.mem_iff_getElem.1 hx
   exact HN.out j x hj (by rw [List.getElem?_eq_getElem hj, he])
end Go.Proofs.YtoelmnamlnbdhaaGreatDoor
