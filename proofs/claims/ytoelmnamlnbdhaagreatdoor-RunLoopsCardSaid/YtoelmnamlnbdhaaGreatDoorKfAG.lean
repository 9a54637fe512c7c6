/-
  Part of a proof of RunLoops: contracts of functions that the claim reaches, and plain lemmas.
-/
import Derived.Test.YtoelmnamlnbdhaaGreatDoorProg
import Derived.Test.YtoelmnamlnbdhaaGreatDoorKfAC
import Derived.Test.YtoelmnamlnbdhaaGreatDoorKfAA
import Derived.WalkKit
import Derived.WalkSpells
import Derived.WalkLawsBesides
import Derived.Outline
set_option linter.all false
namespace Go.Proofs.YtoelmnamlnbdhaaGreatDoor
open Go.RowKit
end Go.Proofs.YtoelmnamlnbdhaaGreatDoor
namespace Go.Proofs.YtoelmnamlnbdhaaGreatDoor
open Go.RowKit
theorem cls_le (c : UInt8) : Hg.cls c ≤ 3 := by
 unfold Hg.cls; repeat' split
 all_goals omega
theorem r8name_eq (s : List UInt8) (h : 0 < s.length) : Hg.r8name s = (decide (s.length ≤ 64) && (Hg.cls s[0] == 1) && s.all Hg.isPart) := by
 cases s with
 | nil => simp at h
 | cons c r => simp [Hg.r8name]
theorem all_hit (s : List UInt8) (p : UInt8 → Bool) (k : Nat) (hk : k < s.length) (h : p s[k] = false) : s.all p = false := by
 rw [List.all_eq_false]; exact ⟨s[k], List.getElem_mem hk, by simp [h]⟩
theorem all_miss (s : List UInt8) (p : UInt8 → Bool) (h : ∀ k, (hk : k < s.length) → p s[k] = true) : s.all p = true := by
 rw [List.all_eq_true]
 intro x hx
 obtain ⟨j, hj, he⟩ := List.mem_iff_getElem.1 hx
 rw [← he]; exact h j hj
end Go.Proofs.YtoelmnamlnbdhaaGreatDoor
namespace Go.Proofs.YtoelmnamlnbdhaaGreatDoor
open Go.RowKit
def letB (c : UInt8) : Bool := decide (Hg.cls c = 1)
def digB (c : UInt8) : Bool := decide (Hg.cls c = 2)
theorem letB_iff (c : UInt8) (z : Bool) (h1 : (97 ≤ c.toNat ∧ c.toNat ≤ 122) ∨ (65 ≤ c.toNat ∧ c.toNat ≤ 90) ∨ c.toNat = 95 → z = true) (h2 : ¬ ((97 ≤ c.toNat ∧ c.toNat ≤ 122) ∨ (65 ≤ c.toNat ∧ c.toNat ≤ 90) ∨ c.toNat = 95) → z = false) : z = letB c := by
 unfold letB Hg.cls
 by_cases h : (97 ≤ c.toNat ∧ c.toNat ≤ 122) ∨ (65 ≤ c.toNat ∧ c.toNat ≤ 90) ∨ c.toNat = 95
 ·
  rw [if_pos h, h1 h]; rfl
 ·
  rw [if_neg h, h2 h]
  split
  ·
   rfl
  ·
   split <;> rfl
theorem digB_iff (c : UInt8) (z : Bool) (h1 : 48 ≤ c.toNat ∧ c.toNat ≤ 57 → z = true) (h2 : ¬ (48 ≤ c.toNat ∧ c.toNat ≤ 57) → z = false) : z = digB c := by
 unfold digB Hg.cls
 by_cases h : 48 ≤ c.toNat ∧ c.toNat ≤ 57
 ·
  rw [if_neg (by omega), if_pos h, h1 h]; rfl
 ·
  rw [h2 h]
  repeat' split
  all_goals rfl
theorem isPart_ld (c : UInt8) : Hg.isPart c = (letB c || digB c) := by
 unfold Hg.isPart letB digB
 rw [Bool.eq_iff_iff]; simp
set_option maxHeartbeats 800000 in
theorem letter_any (c : UInt8) (w : World) : Calls Tryz.prog 74 #[.int .u8 (c.toNat : Int)] w fun e w' => e = .returned (.bool (letB c)) ∧ w = w' := by
 have hc : c.toNat ≤ 255 := by have := c.toNat_lt; omega
 have HF := Lib.hid (letB_iff c)
 generalize letB c = r at HF ⊢
 generalize c.toNat = n at *
 go_enter Tryz.func74, Tryz.ntmps74
 go_wp2
 all_goals (go_ret; refine ⟨ret_bool (HF.out _ ?_ ?_), rfl⟩)
 all_goals (intros; first | omega | (simp only [decide_eq_true_eq, decide_eq_false_iff_not, Bool.or_eq_true, Bool.or_eq_false_iff, beq_iff_eq, beq_eq_false_iff_ne] at *; omega) | (simp only [decide_eq_true_eq, decide_eq_false_iff_not, Bool.or_eq_true, Bool.or_eq_false_iff, beq_iff_eq, beq_eq_false_iff_ne] at *))
set_option maxHeartbeats 800000 in
theorem digit_any (c : UInt8) (w : World) : Calls Tryz.prog 75 #[.int .u8 (c.toNat : Int)] w fun e w' => e = .returned (.bool (digB c)) ∧ w = w' := by
 have hc : c.toNat ≤ 255 := by have := c.toNat_lt; omega
 have HF := Lib.hid (digB_iff c)
 generalize digB c = r at HF ⊢
 generalize c.toNat = n at *
 go_enter Tryz.func75, Tryz.ntmps75
 go_wp2
 all_goals (go_ret; refine ⟨ret_bool (HF.out _ ?_ ?_), rfl⟩)
 all_goals (intros; first | omega | (simp only [decide_eq_true_eq, decide_eq_false_iff_not, Bool.or_eq_true, Bool.or_eq_false_iff, beq_iff_eq, beq_eq_false_iff_ne] at *; omega) | (simp only [decide_eq_true_eq, decide_eq_false_iff_not, Bool.or_eq_true, Bool.or_eq_false_iff, beq_iff_eq, beq_eq_false_iff_ne] at *))
theorem part_any (c : UInt8) (w : World) : Calls Tryz.prog 37 #[.int .u8 (c.toNat : Int)] w fun e w' => e = .returned (.bool (Hg.isPart c)) ∧ w = w' := by
 rw [isPart_ld]
 cases hl : letB c with
 | true =>
   have TL := letter_any c
   rw [hl] at TL
   clear hl
   go_enter Tryz.func37, Tryz.ntmps37
   go_wp2_with (go_at_call 74; refine (TL _).mono ?_; rintro e w' ⟨rfl, rfl⟩)
   go_ret
   exact ⟨rfl, rfl⟩
 | false =>
   have TL := letter_any c
   rw [hl] at TL
   clear hl
   go_enter Tryz.func37, Tryz.ntmps37
   go_wp2_with (first | (go_at_call 74; refine (TL _).mono ?_; rintro e w' ⟨rfl, rfl⟩) | (go_at_call 75; refine (digit_any _ _).mono ?_; rintro e w' ⟨rfl, rfl⟩))
   go_ret
   exact ⟨ret_bool (by simp), rfl⟩
def idxS (xs : List (List UInt8)) (s : List UInt8) : Int := match xs.findIdx? (· == s) with | some k => (k : Int) | none => -1
theorem idxS_hit (l : List (List UInt8)) (s : List UInt8) (k : Nat) (hk : k < l.length) (h : l[k] = s) (hno : ∀ j, j < k → (hj : j < l.length) → l[j] ≠ s) : idxS l s = (k : Int) := by
 have : l.findIdx? (· == s) = some k := by
  rw [List.findIdx?_eq_some_iff_getElem]
  exact ⟨hk, by simpa using h, fun j hj => by simpa using hno j hj (by omega)⟩
 simp [idxS, this]
theorem idxS_miss (l : List (List UInt8)) (s : List UInt8) (hno : ∀ j, (hj : j < l.length) → l[j] ≠ s) : idxS l s = -1 := by
 have : l.findIdx? (· == s) = none := by
  rw [List.findIdx?_eq_none_iff]
  intro x hx
  obtain ⟨j, hj, he⟩ := List.mem_iff_getElem.1 hx
  have := hno j hj
  rw [he] at this
  simpa using this
 simp [idxS, this]
theorem inL_idxS (l : List (List UInt8)) (s : List UInt8) : Hg.inL l s = decide (0 ≤ idxS l s) := by
 unfold Hg.inL idxS
 cases h : l.findIdx? (· == s) with
 | none =>
   rw [List.findIdx?_eq_none_iff] at h
   rw [show decide ((0 : Int) ≤ -1) = false from rfl, List.any_eq_false]
   intro x hx; simp [h x hx]
 | some k =>
   obtain ⟨hk, h1, _⟩ := List.findIdx?_eq_some_iff_getElem.1 h
   rw [show decide ((0 : Int) ≤ (k : Int)) = true by simp, List.any_eq_true]
   exact ⟨l[k], List.getElem_mem hk, h1⟩
set_option maxHeartbeats 800000 in
theorem indexS_any (B : Nat) (v : Value) (xs : List (List UInt8)) (s : List UInt8) (w : World) (hx : Sl w B v xs.length (xs.map strV)) (hl : xs.length ≤ 1000000000) :
 Calls Tryz.prog 80 #[v, .string ⟨s.toArray⟩] w fun e w' => e = .returned (.int .i64 (idxS xs s)) ∧ w = w' := by
 obtain ⟨a, c, rfl⟩ := hx.form
 have HX := Lib.hid hx
 clear hx
 go_enter Tryz.func80, Tryz.ntmps80
 go_wp2
 go_loop [8] (fun i => ∃ k : Nat, k ≤ xs.length ∧ i = .int .i64 k ∧ ∀ j, j < k → (hj : j < xs.length) → xs[j] ≠ s) (fun i => xs.length - (intOf i).toNat)
 case atStart => exact ⟨0, by omega, rfl, fun j hj => by omega⟩
 case round =>
  obtain ⟨k, hk, rfl, hno⟩ := hrel
  have HN := Lib.hid hno
  clear hno
  by_cases hlt : k < xs.length
  ·
   obtain ⟨b, o, rfl, _, hc⟩ := HX.out.strAt hlt
   by_cases hid : xs[k] = s
   ·
    have hq : (s == xs[k]) = true := by simp [hid]
    have hfin := Lib.hid (idxS_hit xs s k hlt hid HN.out)
    clear hid
    go_wp2
    go_ret
    exact ⟨ret_i64 hfin.out.symm, rfl⟩
   ·
    have hq : (s == xs[k]) = false := by simpa using fun e => hid (Eq.symm e)
    have HI := Lib.hid hid
    clear hid
    go_wp2
    go_round
    case rel => exact ⟨k + 1, by omega, by go_num, fun j hj hj2 => by
     by_cases e : j = k
     ·
      subst e; exact HI.out
     ·
      exact HN.out j (by omega) hj2⟩
    case measure => simp [intOf]; omega
  ·
   obtain rfl : k = xs.length := by omega
   have hfin := Lib.hid (idxS_miss xs s fun j hj => HN.out j hj hj)
   go_wp2
   go_ret
   exact ⟨ret_i64 hfin.out.symm, rfl⟩
theorem containsS_any (B : Nat) (v : Value) (xs : List (List UInt8)) (s : List UInt8) (w : World) (hx : Sl w B v xs.length (xs.map strV)) (hl : xs.length ≤ 1000000000) :
 Calls Tryz.prog 42 #[v, .string ⟨s.toArray⟩] w fun e w' => e = .returned (.bool (Hg.inL xs s)) ∧ w = w' := by
 have TI := indexS_any B v xs s w hx hl
 rw [inL_idxS]
 generalize idxS xs s = q at TI ⊢
 go_enter Tryz.func42, Tryz.ntmps42
 go_wp2_with (go_at_call 80; refine TI.mono ?_; rintro e w' ⟨rfl, rfl⟩)
 go_ret
 exact ⟨rfl, rfl⟩
theorem r8name_no (s : List UInt8) (h : s = [] ∨ 64 < s.length) : Hg.r8name s = false := by
 cases s with
 | nil => rfl
 | cons c r =>
   rcases h with h | h
   ·
    cases h
   ·
    have : decide ((c :: r).length ≤ 64) = false := by simp at h ⊢; omega
    simp only [Hg.r8name, this, Bool.false_and]
set_option maxHeartbeats 2000000 in
theorem shaped_any (s : List UInt8) (w : World) (hs : s.length ≤ 1000000000) :
 Calls Tryz.prog 39 #[.string ⟨s.toArray⟩] w fun e w' => e = .returned (.bool (Hg.r8name s)) ∧ w = w' := by
 by_cases h0 : s = []
 ·
  rw [r8name_no s (.inl h0)]
  subst h0
  go_enter Tryz.func39, Tryz.ntmps39
  go_wp2
  go_ret
  exact ⟨rfl, rfl⟩
 have hl0 : 0 < s.length := by cases s with | nil => exact absurd rfl h0 | cons _ _ => simp
 have hd0 : s.isEmpty = false := by simpa using h0
 have hd1 : (s == []) = false := by simpa using h0
 by_cases h64 : 64 < s.length
 ·
  rw [r8name_no s (.inr h64)]
  have hq : decide (64 < (s.length : Int)) = true := by simp; omega
  have hq' : decide (64 < s.length) = true := by simpa using h64
  have H0 := Lib.hid h0
  clear h0 h64
  go_enter Tryz.func39, Tryz.ntmps39
  go_wp2
  go_ret
  exact ⟨rfl, rfl⟩
 have hq : decide (64 < (s.length : Int)) = false := by simp; omega
 have hq' : decide (64 < s.length) = false := by simpa using h64
 have he := r8name_eq s hl0
 rw [show decide (s.length ≤ 64) = true by simp; omega, Bool.true_and, show (Hg.cls s[0] == 1) = letB s[0] by unfold letB; rw [Bool.eq_iff_iff]; simp] at he
 have H64 := Lib.hid h64
 have H0 := Lib.hid h0
 have HE := Lib.hid he
 have TL := letter_any s[0]
 clear h0 h64 he
 cases hl : letB s[0] with
 | false =>
   rw [hl] at TL
   have hf : Hg.r8name s = false := by rw [HE.out, hl]; rfl
   rw [hf]
   clear hl hf
   go_enter Tryz.func39, Tryz.ntmps39
   go_wp2_with (go_at_call 74; refine (TL _).mono ?_; rintro e w' ⟨rfl, rfl⟩)
   go_ret
   exact ⟨rfl, rfl⟩
 | true =>
   rw [hl] at TL
   have hf : Hg.r8name s = s.all Hg.isPart := by rw [HE.out, hl]; rfl
   rw [hf]
   clear hl hf
   go_enter Tryz.func39, Tryz.ntmps39
   go_wp2_with (go_at_call 74; refine (TL _).mono ?_; rintro e w' ⟨rfl, rfl⟩)
   go_loop [19] (fun i => ∃ k : Nat, k ≤ s.length ∧ i = .int .i64 k ∧ ∀ j, j < k → (hj : j < s.length) → Hg.isPart s[j] = true) (fun i => s.length - (intOf i).toNat)
   case atStart => exact ⟨0, by omega, rfl, fun j hj => by omega⟩
   case round =>
    obtain ⟨k, hk, rfl, hno⟩ := hrel
    have HN := Lib.hid hno
    clear hno TL
    by_cases hlt : k < s.length
    ·
     have TL := letter_any s[k]
     have TD := digit_any s[k]
     have hp := isPart_ld s[k]
     cases h1 : letB s[k] with
     | true =>
       rw [h1] at TL hp
       have HP := Lib.hid hp
       clear h1 hp
       go_wp2_with (go_at_call 74; refine (TL _).mono ?_; rintro e w' ⟨rfl, rfl⟩)
       go_round
       case rel => exact ⟨k + 1, by omega, by go_num, fun j hj hj2 => by
        by_cases e : j = k
        ·
         subst e; rw [HP.out]; rfl
        ·
         exact HN.out j (by omega) hj2⟩
       case measure => simp [intOf]; omega
     | false =>
       cases h2 : digB s[k] with
       | true =>
         rw [h1, h2] at hp
         rw [h1] at TL
         rw [h2] at TD
         have HP := Lib.hid hp
         clear h1 h2 hp
         go_wp2_with (first | (go_at_call 74; refine (TL _).mono ?_; rintro e w' ⟨rfl, rfl⟩) | (go_at_call 75; refine (TD _).mono ?_; rintro e w' ⟨rfl, rfl⟩))
         go_round
         case rel => exact ⟨k + 1, by omega, by go_num, fun j hj hj2 => by
          by_cases e : j = k
          ·
           subst e; rw [HP.out]; rfl
          ·
           exact HN.out j (by omega) hj2⟩
         case measure => simp [intOf]; omega
       | false =>
         rw [h1, h2] at hp
         rw [h1] at TL
         rw [h2] at TD
         have hf := Lib.hid (all_hit s Hg.isPart k hlt (by rw [hp]; rfl))
         clear h1 h2 hp
         go_wp2_with (first | (go_at_call 74; refine (TL _).mono ?_; rintro e w' ⟨rfl, rfl⟩) | (go_at_call 75; refine (TD _).mono ?_; rintro e w' ⟨rfl, rfl⟩))
         go_ret
         exact ⟨ret_bool hf.out.symm, rfl⟩
    ·
     obtain rfl : k = s.length := by omega
     have hf := Lib.hid (all_miss s Hg.isPart fun j hj => HN.out j hj hj)
     go_wp2
     go_ret
     exact ⟨ret_bool hf.out.symm, rfl⟩
end Go.Proofs.YtoelmnamlnbdhaaGreatDoor
namespace Go.Proofs.YtoelmnamlnbdhaaGreatDoor
open Go.RowKit
end Go.Proofs.YtoelmnamlnbdhaaGreatDoor
namespace Go.Proofs.YtoelmnamlnbdhaaGreatDoor
open Go.RowKit
end Go.Proofs.YtoelmnamlnbdhaaGreatDoor
namespace Go.Proofs.YtoelmnamlnbdhaaGreatDoor
open Go.RowKit
@[reducible] def ndV (n : Hg.Node) (ka : Option Addr) (kc : Nat) : Value :=
 .agg #[.int .u8 (n.kind : Int), strV n.name, .int .i64 n.num, .int .u8 (n.type : Int), .int .u64 (n.ref : Int), .slice ka n.kids.length kc]
def NodeRes (B : Nat) (n : Hg.Node) (w : World) (e : Ending) (w' : World) : Prop :=
 ∃ ka kc, e = .returned (ndV n ka kc) ∧ Sl w' B (.slice ka n.kids.length kc) n.kids.length (n.kids.map idV) ∧ Below w.heap.size w w'
theorem NodeRes.mk {B : Nat} {n : Hg.Node} {w : World} {e : Ending} {w' : World} {ka : Option Addr} {kc : Nat} (h1 : e = .returned (ndV n ka kc)) (h2 : Sl w' B (.slice ka n.kids.length kc) n.kids.length (n.kids.map idV)) (h3 : Below w.heap.size w w') : NodeRes B n w e w' := ⟨ka, kc, h1, h2, h3⟩
theorem set6_below {w w1 : World} {B g : Nat} (h : Below B w w1) (hg : B ≤ g) (u0 u1 u2 u3 u4 u5 : Value) :
 Below B w ((((((w1.setCell ⟨g, 0, none⟩ u0).setCell ⟨g, 1, none⟩ u1).setCell ⟨g, 2, none⟩ u2).setCell ⟨g, 3, none⟩ u3).setCell ⟨g, 4, none⟩ u4).setCell ⟨g, 5, none⟩ u5) :=
 (((((h.setCell (p := ⟨g, 0, none⟩) hg _).setCell (p := ⟨g, 1, none⟩) hg _).setCell (p := ⟨g, 2, none⟩) hg _).setCell (p := ⟨g, 3, none⟩) hg _).setCell (p := ⟨g, 4, none⟩) hg _).setCell (p := ⟨g, 5, none⟩) hg _
end Go.Proofs.YtoelmnamlnbdhaaGreatDoor
namespace Go.Proofs.YtoelmnamlnbdhaaGreatDoor
open Go.RowKit
end Go.Proofs.YtoelmnamlnbdhaaGreatDoor
