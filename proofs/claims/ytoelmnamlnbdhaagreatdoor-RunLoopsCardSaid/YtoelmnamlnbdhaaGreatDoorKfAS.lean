/-
  Part of a proof of RunLoops: contracts of functions that the claim reaches, and plain lemmas.
-/
import Derived.Test.YtoelmnamlnbdhaaGreatDoorKfAR
import Derived.Test.YtoelmnamlnbdhaaGreatDoorKfAH
import Derived.Test.YtoelmnamlnbdhaaGreatDoorKfAA
set_option linter.all false
namespace Go.Proofs.YtoelmnamlnbdhaaGreatDoor
open Go.RowKit
def ScAt (w : World) (cb : Nat) (s : List UInt8) (k : Nat) : Prop := w.heap[cb]? = some (.cells #[strV s, .int .i64 (k : Int)] 63 (0, 0))
theorem ScAt.read {w : World} {cb k : Nat} {s : List UInt8} (h : ScAt w cb s k) : w.cell? ⟨cb, 0, none⟩ = some (strV s) ∧ w.cell? ⟨cb, 1, none⟩ = some (.int .i64 (k : Int)) ∧ ∀ i, w.frozen? ⟨cb, i, none⟩ = false :=
 ⟨cell_of_row w cb 0 _ _ (0, 0) h, cell_of_row w cb 1 _ _ (0, 0) h, fun i => by unfold ScAt at h; simp [World.frozen?, h]⟩
theorem ScAt.lt {w : World} {cb k : Nat} {s : List UInt8} (h : ScAt w cb s k) : cb < w.heap.size := (Array.getElem?_eq_some_iff.1 h).1
theorem ScAt.set {w : World} {cb k j : Nat} {s : List UInt8} (h : ScAt w cb s k) : ScAt (w.setCell ⟨cb, 1, none⟩ (.int .i64 (j : Int))) cb s j := heap_setCell_same h _
theorem ScAt.keep {w w' : World} {cb k : Nat} {s : List UInt8} (h : ScAt w cb s k) (hb : w'.heap[cb]? = w.heap[cb]?) : ScAt w' cb s k := hb.trans h
def cellN (w : World) (a : Addr) : Nat := match w.cell? a with | some (.int _ n) => n.toNat | _ => 0
theorem grown_set {w wr : World} {cb : Nat} (h : w.grownBy wr (some cb)) (i : Nat) (u : Value) : w.grownBy (wr.setCell ⟨cb, i, none⟩ u) (some cb) :=
 ⟨h.os, h.tape, h.output, by simpa using h.size, fun j hj hne => (Below.heap_setCell wr ⟨cb, i, none⟩ u j (fun e => hne (by rw [e]))).trans (h.block j hj hne)⟩
theorem grown_drewN {w wr : World} {row : Option Nat} (h : w.grownBy wr row) (n : Nat) : w.grownBy (wr.drewN n) row := by
 have hh : (wr.drewN n).heap = wr.heap := by unfold World.drewN; rfl
 exact ⟨h.os, h.tape, h.output, by rw [hh]; exact h.size, fun j hj hne => by rw [hh]; exact h.block j hj hne⟩
theorem grown_refl (w : World) (row : Option Nat) : w.grownBy w row := ⟨rfl, rfl, rfl, Nat.le_refl _, fun _ _ _ => rfl⟩
def RunRes (w : World) (cb : Nat) (s : List UInt8) (k : Nat) (p : UInt8 → Bool) (e : Ending) (w' : World) : Prop :=
 e = .returned (strV ((s.drop k).takeWhile p)) ∧ ScAt w' cb s (k + ((s.drop k).takeWhile p).length) ∧ w.grownBy w' (some cb)
theorem tw_take : ∀ (l : List UInt8) (p : UInt8 → Bool) (n : Nat), n ≤ l.length → (∀ i, i < n → ∃ c, l[i]? = some c ∧ p c = true) → (∀ c, l[n]? = some c → p c = false) → l.takeWhile p = l.take n
 | [], p, n, _, _, _ => by simp
 | c :: l, p, 0, _, _, h => by rw [List.takeWhile_cons, h c rfl]; simp
 | c :: l, p, n + 1, hn, ha, h => by
   obtain ⟨c', h1, h2⟩ := ha 0 (by omega)
   simp only [List.getElem?_cons_zero, Option.some.injEq] at h1
   subst h1
   rw [List.takeWhile_cons, h2, List.take_succ_cons, tw_take l p n (by simpa using hn) (fun i hi => by simpa using ha (i + 1) (by omega)) (fun c hc => h c (by simpa using hc))]
   simp
theorem run_end (s : List UInt8) (p : UInt8 → Bool) (k j : Nat) (hk : k ≤ j) (hj : j ≤ s.length) (ha : ∀ i, k ≤ i → i < j → (hi : i < s.length) → p s[i] = true) (he : ∀ (h : j < s.length), p s[j] = false) :
 (s.drop k).takeWhile p = (s.drop k).take (j - k) ∧ ((s.drop k).takeWhile p).length = j - k := by
 have h1 : (s.drop k).takeWhile p = (s.drop k).take (j - k) := by
  refine tw_take _ p _ (by simp; omega) (fun i hi => ?_) (fun c hc => ?_)
  ·
   refine ⟨s[k + i], ?_, ha (k + i) (by omega) (by omega) (by omega)⟩
   rw [List.getElem?_drop, List.getElem?_eq_getElem (by omega)]
  ·
   rw [List.getElem?_drop, show k + (j - k) = j by omega] at hc
   obtain ⟨h, e⟩ := List.getElem?_eq_some_iff.1 hc
   rw [← e]; exact he h
 refine ⟨?_, ?_⟩
 ·
  exact h1
 ·
  rw [h1]; simp; omega
theorem RunRes.of {w w' : World} {cb k j : Nat} {s L : List UInt8} {p : UInt8 → Bool} (h1 : (s.drop k).takeWhile p = (s.drop k).take (j - k)) (h2 : ((s.drop k).takeWhile p).length = j - k) (hkj : k ≤ j) (hs : ScAt w' cb s j) (hg : w.grownBy w' (some cb)) (hL : L = (s.drop k).take (j - k)) :
 RunRes w cb s k p (.returned (.string ⟨L.toArray⟩)) w' := by
 refine ⟨by rw [hL, h1], ?_, hg⟩
 rw [h2, show k + (j - k) = j by omega]
 exact hs
set_option maxHeartbeats 2000000 in
set_option maxRecDepth 100000 in
theorem run_part (cb : Nat) (s : List UInt8) (k : Nat) (w : World) (hC : ScAt w cb s k) (hk : k ≤ s.length) (hl : s.length ≤ 1000000) :
 Calls Tryz.prog 35 #[.pointer (some ⟨cb, 0, none⟩), .func (.func 37) #[] #[]] w (RunRes w cb s k Hg.isPart) := by
 obtain ⟨c0, c1, f0⟩ := hC.read
 have HC := Lib.hid hC
 clear hC
 go_enter Tryz.func35, Tryz.ntmps35
 go_wp2
 have hg0 := grown_refl w (some cb)
 go_loopw [] (fun wr => ∃ j : Nat, k ≤ j ∧ j ≤ s.length ∧ ScAt wr cb s j ∧ w.grownBy wr (some cb) ∧ ∀ i, k ≤ i → i < j → (hi : i < s.length) → Hg.isPart s[i] = true) (fun wr => s.length - cellN wr ⟨cb, 1, none⟩)
 case atStart => exact ⟨k, Nat.le_refl _, hk, HC.out, hg0, fun i h1 h2 => by omega⟩
 case round =>
  obtain ⟨j, hkj, hjl, hsc, hg, ha⟩ := hrel
  clear c0 c1 f0 hg0
  obtain ⟨c0, c1, f0⟩ := hsc.read
  have HS := Lib.hid hsc
  have HA := Lib.hid ha
  have HG := Lib.hid hg
  clear hsc ha hg
  by_cases hlt : j < s.length
  ·
   have TP : ∀ W, Calls Tryz.prog 37 #[.int .u8 (s[j].toNat : Int)] W fun e w' => e = .returned (.bool (Hg.isPart s[j])) ∧ w' = W := fun W => (part_any s[j] W).mono fun e w' h => ⟨h.1, h.2.symm⟩
   cases hp : Hg.isPart s[j] with
   | true =>
     rw [hp] at TP
     have HP := Lib.hid hp
     have hm : cellN wr ⟨cb, 1, none⟩ = j := by unfold cellN; rw [c1]; simp
     clear hp
     go_wp2
     go_quiet (refine Calls.quiet_of_same (TP _))
     go_wp2
     have hm2 : cellN (wr.setCell ⟨cb, 1, none⟩ (.int .i64 ((j + 1 : Nat) : Int))) ⟨cb, 1, none⟩ = j + 1 := by
      unfold cellN; rw [(HS.out.set (j := j + 1)).read.2.1]; simp
     go_roundw
     case rel => exact ⟨j + 1, by omega, by omega, (HS.out.set (j := j + 1)), grown_drewN (grown_set HG.out 1 _) _, fun i h1 h2 hi => by
      by_cases e : i = j
      ·
       subst e; exact HP.out
      ·
       exact HA.out i h1 (by omega) hi⟩
     case measure =>
      show s.length - cellN (wr.setCell ⟨cb, 1, none⟩ (.int .i64 ((j + 1 : Nat) : Int))) ⟨cb, 1, none⟩ < s.length - cellN wr ⟨cb, 1, none⟩
      rw [hm, hm2]; omega
   | false =>
     rw [hp] at TP
     obtain ⟨he1, he2⟩ := run_end s Hg.isPart k j hkj hjl HA.out (fun _ => hp)
     have HE1 := Lib.hid he1
     have HE2 := Lib.hid he2
     clear hp he1 he2
     go_wp2
     go_quiet (refine Calls.quiet_of_same (TP _))
     go_wp2
     go_quiet (fail)
     go_wp2
     go_ret
     exact RunRes.of HE1.out HE2.out hkj HS.out (grown_drewN (grown_drewN HG.out _) _) rfl
  ·
   obtain rfl : j = s.length := by omega
   obtain ⟨he1, he2⟩ := run_end s Hg.isPart k s.length hkj hjl HA.out (fun h => absurd h (Nat.lt_irrefl _))
   have HE1 := Lib.hid he1
   have HE2 := Lib.hid he2
   clear he1 he2
   go_wp2
   go_quiet (fail)
   go_wp2
   go_quiet (fail)
   go_wp2
   go_ret
   exact RunRes.of HE1.out HE2.out hkj HS.out (grown_drewN (grown_drewN HG.out _) _) (by first | rfl | simp)
def lineB (c : UInt8) : Bool := c.toNat != 10
theorem line_any (c : UInt8) (w : World) : Calls Tryz.prog 36 #[.int .u8 (c.toNat : Int)] w fun e w' => e = .returned (.bool (lineB c)) ∧ w = w' := by
 have hq : ((c.toNat : Int) != 10) = lineB c := by unfold lineB; rw [Bool.eq_iff_iff]; simp; omega
 generalize lineB c = q at hq ⊢
 generalize c.toNat = n at *
 go_enter Tryz.func36, Tryz.ntmps36
 go_wp2
 all_goals (go_ret; exact ⟨by first | rfl | (rw [← hq]; rfl), rfl⟩)
set_option maxHeartbeats 2000000 in
set_option maxRecDepth 100000 in
theorem run_line (cb : Nat) (s : List UInt8) (k : Nat) (w : World) (hC : ScAt w cb s k) (hk : k ≤ s.length) (hl : s.length ≤ 1000000) :
 Calls Tryz.prog 35 #[.pointer (some ⟨cb, 0, none⟩), .func (.func 36) #[] #[]] w (RunRes w cb s k lineB) := by
 obtain ⟨c0, c1, f0⟩ := hC.read
 have HC := Lib.hid hC
 clear hC
 go_enter Tryz.func35, Tryz.ntmps35
 go_wp2
 have hg0 := grown_refl w (some cb)
 go_loopw [] (fun wr => ∃ j : Nat, k ≤ j ∧ j ≤ s.length ∧ ScAt wr cb s j ∧ w.grownBy wr (some cb) ∧ ∀ i, k ≤ i → i < j → (hi : i < s.length) → lineB s[i] = true) (fun wr => s.length - cellN wr ⟨cb, 1, none⟩)
 case atStart => exact ⟨k, Nat.le_refl _, hk, HC.out, hg0, fun i h1 h2 => by omega⟩
 case round =>
  obtain ⟨j, hkj, hjl, hsc, hg, ha⟩ := hrel
  clear c0 c1 f0 hg0
  obtain ⟨c0, c1, f0⟩ := hsc.read
  have HS := Lib.hid hsc
  have HA := Lib.hid ha
  have HG := Lib.hid hg
  clear hsc ha hg
  by_cases hlt : j < s.length
  ·
   have TP : ∀ W, Calls Tryz.prog 36 #[.int .u8 (s[j].toNat : Int)] W fun e w' => e = .returned (.bool (lineB s[j])) ∧ w' = W := fun W => (line_any s[j] W).mono fun e w' h => ⟨h.1, h.2.symm⟩
   cases hp : lineB s[j] with
   | true =>
     rw [hp] at TP
     have HP := Lib.hid hp
     have hm : cellN wr ⟨cb, 1, none⟩ = j := by unfold cellN; rw [c1]; simp
     clear hp
     go_wp2
     go_quiet (refine Calls.quiet_of_same (TP _))
     go_wp2
     have hm2 : cellN (wr.setCell ⟨cb, 1, none⟩ (.int .i64 ((j + 1 : Nat) : Int))) ⟨cb, 1, none⟩ = j + 1 := by
      unfold cellN; rw [(HS.out.set (j := j + 1)).read.2.1]; simp
     go_roundw
     case rel => exact ⟨j + 1, by omega, by omega, (HS.out.set (j := j + 1)), grown_drewN (grown_set HG.out 1 _) _, fun i h1 h2 hi => by
      by_cases e : i = j
      ·
       subst e; exact HP.out
      ·
       exact HA.out i h1 (by omega) hi⟩
     case measure =>
      show s.length - cellN (wr.setCell ⟨cb, 1, none⟩ (.int .i64 ((j + 1 : Nat) : Int))) ⟨cb, 1, none⟩ < s.length - cellN wr ⟨cb, 1, none⟩
      rw [hm, hm2]; omega
   | false =>
     rw [hp] at TP
     obtain ⟨he1, he2⟩ := run_end s lineB k j hkj hjl HA.out (fun _ => hp)
     have HE1 := Lib.hid he1
     have HE2 := Lib.hid he2
     clear hp he1 he2
     go_wp2
     go_quiet (refine Calls.quiet_of_same (TP _))
     go_wp2
     go_quiet (fail)
     go_wp2
     go_ret
     exact RunRes.of HE1.out HE2.out hkj HS.out (grown_drewN (grown_drewN HG.out _) _) rfl
  ·
   obtain rfl : j = s.length := by omega
   obtain ⟨he1, he2⟩ := run_end s lineB k s.length hkj hjl HA.out (fun h => absurd h (Nat.lt_irrefl _))
   have HE1 := Lib.hid he1
   have HE2 := Lib.hid he2
   clear he1 he2
   go_wp2
   go_quiet (fail)
   go_wp2
   go_quiet (fail)
   go_wp2
   go_ret
   exact RunRes.of HE1.out HE2.out hkj HS.out (grown_drewN (grown_drewN HG.out _) _) (by first | rfl | simp)
end Go.Proofs.YtoelmnamlnbdhaaGreatDoor
namespace Go.Proofs.YtoelmnamlnbdhaaGreatDoor
open Go.RowKit
def Tail (s : List UInt8) (l : List Hg.Tok) (acc : List Hg.Tok) (i : Nat) : Prop := i ≤ s.length ∧ ∃ f, s.length - i ≤ f ∧ Hg.r8scan f i (s.drop i) acc = some l
def Solid (s : List UInt8) (i : Nat) : Prop := ∀ (h : i < s.length), Hg.cls s[i] ≠ 3 ∧ s[i].toNat ≠ 35
theorem Tail.blank {s : List UInt8} {l acc : List Hg.Tok} {i : Nat} (h : Tail s l acc i) (hi : i < s.length) (hc : Hg.cls s[i] = 3) : Tail s l acc (i + 1) := by
 obtain ⟨_, f, hf, hr⟩ := h
 refine ⟨by omega, ?_⟩
 cases f with
 | zero => omega
 | succ f =>
   rw [List.drop_eq_getElem_cons hi, Hg.r8scan] at hr
   rw [if_pos hc] at hr
   exact ⟨f, by omega, hr⟩
theorem Tail.comment {s : List UInt8} {l acc : List Hg.Tok} {i : Nat} (h : Tail s l acc i) (hi : i < s.length) (hc : Hg.cls s[i] ≠ 3) (h35 : s[i].toNat = 35) :
 Tail s l acc (i + ((s.drop i).takeWhile lineB).length) ∧ 0 < ((s.drop i).takeWhile lineB).length := by
 obtain ⟨_, f, hf, hr⟩ := h
 have hle : ((s.drop i).takeWhile lineB).length ≤ (s.drop i).length := (List.takeWhile_sublist _).length_le
 have hpos : 0 < ((s.drop i).takeWhile lineB).length := by
  rw [List.drop_eq_getElem_cons hi, List.takeWhile_cons, if_pos (by unfold lineB; simp [h35])]
  simp
 refine ⟨⟨by simp at hle; omega, ?_⟩, hpos⟩
 cases f with
 | zero => omega
 | succ f =>
   rw [List.drop_eq_getElem_cons hi, Hg.r8scan] at hr
   rw [if_neg hc, if_pos h35] at hr
   dsimp only at hr
   rw [← List.drop_eq_getElem_cons hi, List.drop_drop] at hr
   exact ⟨f, by omega, hr⟩
def SkipRes (w : World) (cb : Nat) (s : List UInt8) (l acc : List Hg.Tok) (k : Nat) (e : Ending) (w' : World) : Prop :=
 ∃ i, k ≤ i ∧ e = .returned (.tuple #[]) ∧ ScAt w' cb s i ∧ Tail s l acc i ∧ Solid s i ∧ w.grownBy w' (some cb)
theorem cls3 (c : UInt8) : Hg.cls c = 3 ↔ c.toNat = 32 ∨ c.toNat = 9 ∨ c.toNat = 10 := by
 unfold Hg.cls
 constructor
 ·
  intro h
  split at h
  ·
   omega
  ·
   split at h
   ·
    omega
   ·
    split at h
    ·
     assumption
    ·
     omega
 ·
  intro h
  rw [if_neg (by omega), if_neg (by omega), if_pos h]
theorem grown_trans {a b c : World} {row : Option Nat} (h : a.grownBy b row) (k : b.grownBy c row) : a.grownBy c row :=
 ⟨k.os.trans h.os, k.tape.trans h.tape, k.output.trans h.output, Nat.le_trans h.size k.size, fun i hi hne => (k.block i (Nat.lt_of_lt_of_le hi h.size) hne).trans (h.block i hi hne)⟩
set_option maxHeartbeats 2000000 in
set_option maxRecDepth 100000 in
theorem skip_any (cb : Nat) (s : List UInt8) (l acc : List Hg.Tok) (k : Nat) (w : World) (hC : ScAt w cb s k) (hl : s.length ≤ 1000000) (hT : Tail s l acc k) :
 Calls Tryz.prog 17 #[.pointer (some ⟨cb, 0, none⟩)] w (SkipRes w cb s l acc k) := by
 have HC := Lib.hid hC
 have HT := Lib.hid hT
 have hg0 := Lib.hid (grown_refl w (some cb))
 clear hC hT
 go_enter Tryz.func17, Tryz.ntmps17
 go_wp2
 go_loopw [] (fun wr => ∃ j : Nat, k ≤ j ∧ ScAt wr cb s j ∧ Tail s l acc j ∧ w.grownBy wr (some cb)) (fun wr => s.length - cellN wr ⟨cb, 1, none⟩)
 case atStart => exact ⟨k, Nat.le_refl _, HC.out, HT.out, hg0.out⟩
 case round =>
  obtain ⟨j, hkj, hsc, htl, hg⟩ := hrel
  obtain ⟨c0, c1, f0⟩ := hsc.read
  have hjl : j ≤ s.length := htl.1
  have HS := Lib.hid hsc
  have HA := Lib.hid htl
  have HG := Lib.hid hg
  have hm : cellN wr ⟨cb, 1, none⟩ = j := by unfold cellN; rw [c1]; simp
  have HM := Lib.hid hm
  clear hsc htl hg hg0 hm
  by_cases hlt : j < s.length
  ·
   have hm2 : cellN (wr.setCell ⟨cb, 1, none⟩ (.int .i64 ((j + 1 : Nat) : Int))) ⟨cb, 1, none⟩ = j + 1 := by
    unfold cellN; rw [(HS.out.set (j := j + 1)).read.2.1]; simp
   have HM2 := Lib.hid hm2
   have hcl := cls3 s[j]
   have hcl2 := HA.out.blank hlt
   have hcm := HA.out.comment hlt
   have hsol : ¬ (s[j].toNat = 32 ∨ s[j].toNat = 9 ∨ s[j].toNat = 10) → s[j].toNat ≠ 35 → Solid s j := fun h1 h2 _ => ⟨fun h => h1 (hcl.1 h), h2⟩
   clear hm2
   have HCL := Lib.hid hcl
   have HCL2 := Lib.hid hcl2
   have HCM := Lib.hid hcm
   have HSOL := Lib.hid hsol
   clear hcl hcl2 hcm hsol
   by_cases h32 : s[j].toNat = 32
   ·
    have q32 : ((s[j].toNat : Int) == 32) = true := by simp [h32]
    have HH := Lib.hid h32
    clear h32
    go_wp2
    go_quiet (fail)
    go_wp2
    go_quiet (fail)
    go_wp2
    go_roundw
    case rel => exact ⟨j + 1, by omega, HS.out.set (j := j + 1), HCL2.out (HCL.out.2 (by have := HH.out; omega)), grown_drewN (grown_set HG.out 1 _) _⟩
    case measure =>
     show s.length - cellN (wr.setCell ⟨cb, 1, none⟩ (.int .i64 ((j + 1 : Nat) : Int))) ⟨cb, 1, none⟩ < s.length - cellN wr ⟨cb, 1, none⟩
     rw [HM.out, HM2.out]; omega
   have q32 : ((s[j].toNat : Int) == 32) = false := by simp; omega
   by_cases h9 : s[j].toNat = 9
   ·
    have q9 : ((s[j].toNat : Int) == 9) = true := by simp [h9]
    have HH := Lib.hid h9
    clear h9
    go_wp2
    go_quiet (fail)
    go_wp2
    go_quiet (fail)
    go_wp2
    go_roundw
    case rel => exact ⟨j + 1, by omega, HS.out.set (j := j + 1), HCL2.out (HCL.out.2 (by have := HH.out; omega)), grown_drewN (grown_set HG.out 1 _) _⟩
    case measure =>
     show s.length - cellN (wr.setCell ⟨cb, 1, none⟩ (.int .i64 ((j + 1 : Nat) : Int))) ⟨cb, 1, none⟩ < s.length - cellN wr ⟨cb, 1, none⟩
     rw [HM.out, HM2.out]; omega
   have q9 : ((s[j].toNat : Int) == 9) = false := by simp; omega
   by_cases h10 : s[j].toNat = 10
   ·
    have q10 : ((s[j].toNat : Int) == 10) = true := by simp [h10]
    have HH := Lib.hid h10
    clear h10
    go_wp2
    go_quiet (fail)
    go_wp2
    go_quiet (fail)
    go_wp2
    go_roundw
    case rel => exact ⟨j + 1, by omega, HS.out.set (j := j + 1), HCL2.out (HCL.out.2 (by have := HH.out; omega)), grown_drewN (grown_set HG.out 1 _) _⟩
    case measure =>
     show s.length - cellN (wr.setCell ⟨cb, 1, none⟩ (.int .i64 ((j + 1 : Nat) : Int))) ⟨cb, 1, none⟩ < s.length - cellN wr ⟨cb, 1, none⟩
     rw [HM.out, HM2.out]; omega
   have q10 : ((s[j].toNat : Int) == 10) = false := by simp; omega
   by_cases h35 : s[j].toNat = 35
   ·
    have q35 : ((s[j].toNat : Int) == 35) = true := by simp [h35]
    have hc3 : Hg.cls s[j] ≠ 3 := fun h => by have := HCL.out.1 h; omega
    obtain ⟨ht2, hpos⟩ := HCM.out hc3 h35
    have HT2 := Lib.hid ht2
    have HH := Lib.hid (And.intro h32 (And.intro h9 (And.intro h10 h35)))
    have TR := Lib.hid (fun (m : Nat) => run_line cb s j (wr.drewN m) (show ScAt (wr.drewN m) cb s j from HS.out) hjl hl)
    clear h32 h9 h10 h35 hc3 ht2
    go_wp2
    go_quiet (fail)
    go_wp2
    go_quiet (fail)
    go_wp2_with fail
    refine (TR.out _).mono ?_
    rintro e w1 ⟨rfl, hs1, hg1⟩
    have HS1 := Lib.hid hs1
    have HG1 := Lib.hid (grown_trans (grown_drewN HG.out _) hg1)
    have hm3 : cellN w1 ⟨cb, 1, none⟩ = j + ((s.drop j).takeWhile lineB).length := by unfold cellN; rw [hs1.read.2.1]; simp; omega
    have HM3 := Lib.hid hm3
    have hle : ((s.drop j).takeWhile lineB).length ≤ (s.drop j).length := (List.takeWhile_sublist _).length_le
    clear hs1 hg1 hm3 c0 c1 f0
    generalize ((s.drop j).takeWhile lineB).length = m at HS1 HM3 HT2 hpos hle
    go_wp2
    go_roundw
    case rel => exact ⟨j + m, by omega, HS1.out, HT2.out, HG1.out⟩
    case measure => rw [HM3.out, HM.out]; omega
   ·
    have q35 : ((s[j].toNat : Int) == 35) = false := by simp; omega
    have hso := HSOL.out (by omega) h35
    have HSO := Lib.hid hso
    have HH := Lib.hid (And.intro h32 (And.intro h9 (And.intro h10 h35)))
    clear h32 h9 h10 h35 hso
    go_wp2
    go_quiet (fail)
    go_wp2
    go_quiet (fail)
    go_wp2
    go_end0
    exact ⟨j, hkj, rfl, HS.out, HA.out, HSO.out, grown_drewN HG.out _⟩
  ·
   have hso : Solid s j := fun h => absurd h hlt
   have HSO := Lib.hid hso
   have hq : decide (j < s.length) = false := by simpa using hlt
   have hq2 : decide ((j : Int) < (s.length : Int)) = false := by simp; omega
   have HL := Lib.hid hlt
   clear hso hlt
   go_wp2
   go_quiet (fail)
   go_wp2
   go_end0
   exact ⟨j, hkj, rfl, HS.out, HA.out, HSO.out, grown_drewN HG.out _⟩
end Go.Proofs.YtoelmnamlnbdhaaGreatDoor
namespace Go.Proofs.YtoelmnamlnbdhaaGreatDoor
open Go.RowKit
def NumOk (l : List Hg.Tok) : Prop := ∀ t ∈ l, t.kind = 2 → ∃ n, n < 256 ∧ t.text = Hg.numT n
theorem scan_prefix : ∀ (f i : Nat) (s : List UInt8) (acc l : List Hg.Tok), Hg.r8scan f i s acc = some l → ∃ m, l = acc ++ m
 | 0, i, s, acc, l, h => ⟨[], by rw [Hg.r8scan] at h; injection h with h; simp [h]⟩
 | f + 1, i, [], acc, l, h => ⟨[], by rw [Hg.r8scan] at h; injection h with h; simp [h]⟩
 | f + 1, i, c :: r, acc, l, h => by
   rw [Hg.r8scan] at h
   have hadd : ∀ (k : Nat) (q : List UInt8) (t : Hg.Tok), Hg.r8scan f k q (acc ++ [t]) = some l → ∃ m, l = acc ++ m := by
    intro k q t h
    obtain ⟨m, hm⟩ := scan_prefix f k q _ l h
    exact ⟨t :: m, by rw [hm]; simp⟩
   dsimp only at h
   split at h
   ·
    exact scan_prefix f _ _ acc l h
   ·
    split at h
    ·
     exact scan_prefix f _ _ acc l h
    ·
     split at h
     ·
      split at h
      ·
       exact hadd _ _ _ h
      ·
       split at h
       ·
        exact hadd _ _ _ h
       ·
        split at h
        ·
         exact hadd _ _ _ h
        ·
         cases h
     ·
      generalize (if Hg.inL Hg.signs ((c :: r).take 2) = true ∧ 2 ≤ (c :: r).length then (c :: r).take 2 else (c :: r).take 1) = q at h
      split at h
      ·
       exact hadd _ _ _ h
      ·
       cases h
theorem Tail.mem {s : List UInt8} {l acc : List Hg.Tok} {i : Nat} {t : Hg.Tok} (h : Tail s l (acc ++ [t]) i) : t ∈ l := by
 obtain ⟨_, f, _, hr⟩ := h
 obtain ⟨m, hm⟩ := scan_prefix f _ _ _ _ hr
 rw [hm]; simp
inductive Nxt (s : List UInt8) (k : Nat) : Hg.Tok → Prop
 | word (w : List UInt8) (hp : ∀ h : k < s.length, Hg.isPart s[k] = true) (hw : (s.drop k).takeWhile Hg.isPart = w) (h : Hg.inL Hg.words w = true) : Nxt s k ⟨3, w, k⟩
 | name (w : List UInt8) (hp : ∀ h : k < s.length, Hg.isPart s[k] = true) (hw : (s.drop k).takeWhile Hg.isPart = w) (h : Hg.inL Hg.words w = false) (hn : Hg.r8name w = true) : Nxt s k ⟨1, w, k⟩
 | num (w : List UInt8) (hp : ∀ h : k < s.length, Hg.isPart s[k] = true) (hw : (s.drop k).takeWhile Hg.isPart = w) (h : Hg.inL Hg.words w = false) (hn : Hg.r8name w = false) : Nxt s k ⟨2, w, k⟩
 | two (hp : ∀ h : k < s.length, Hg.isPart s[k] = false) (h : Hg.inL Hg.signs ((s.drop k).take 2) = true) (hl : k + 2 ≤ s.length) : Nxt s k ⟨4, (s.drop k).take 2, k⟩
 | one (hp : ∀ h : k < s.length, Hg.isPart s[k] = false) (h2 : Hg.inL Hg.signs ((s.drop k).take 2) = false ∨ s.length < k + 2) (h : Hg.inL Hg.signs ((s.drop k).take 1) = true) : Nxt s k ⟨4, (s.drop k).take 1, k⟩
theorem part_cls (c : UInt8) (h : Hg.cls c ≠ 3) : 0 < Hg.cls c ↔ Hg.isPart c = true := by
 have := cls_le c
 unfold Hg.isPart
 simp only [Bool.or_eq_true, beq_iff_eq]
 omega
theorem Tail.next {s : List UInt8} {l acc : List Hg.Tok} {k : Nat} (hT : Tail s l acc k) (hS : Solid s k) (hk : k < s.length) :
 ∃ t, Nxt s k t ∧ Tail s l (acc ++ [t]) (k + t.text.length) ∧ 0 < t.text.length := by
 obtain ⟨_, f, hf, hr⟩ := hT
 obtain ⟨h3, h35⟩ := hS hk
 cases f with
 | zero => omega
 | succ f =>
   have hd := List.drop_eq_getElem_cons hk
   have hlen : (s.drop k).length = s.length - k := by simp
   rw [hd, Hg.r8scan, if_neg h3, if_neg h35] at hr
   dsimp only at hr
   rw [← hd] at hr
   have hfin : ∀ (t : Hg.Tok), Nxt s k t → t.pos = k → 0 < t.text.length → t.text.length ≤ s.length - k → Hg.r8scan f (k + t.text.length) ((s.drop k).drop t.text.length) (acc ++ [t]) = some l → ∃ t, Nxt s k t ∧ Tail s l (acc ++ [t]) (k + t.text.length) ∧ 0 < t.text.length := by
    intro t h1 _ h2 h4 h5
    rw [List.drop_drop] at h5
    exact ⟨t, h1, ⟨by omega, f, by omega, h5⟩, h2⟩
   by_cases h0 : 0 < Hg.cls s[k]
   ·
    have hp := (part_cls _ h3).1 h0
    rw [if_pos h0] at hr
    have hpos : 0 < ((s.drop k).takeWhile Hg.isPart).length := by rw [hd, List.takeWhile_cons, if_pos hp]; simp
    have hle : ((s.drop k).takeWhile Hg.isPart).length ≤ s.length - k := by rw [← hlen]; exact (List.takeWhile_sublist _).length_le
    by_cases a1 : Hg.inL Hg.words ((s.drop k).takeWhile Hg.isPart) = true
    ·
     rw [if_pos a1] at hr
     exact hfin _ (.word _ (fun _ => hp) rfl a1) rfl hpos hle hr
    ·
     rw [if_neg a1] at hr
     have a1' : Hg.inL Hg.words ((s.drop k).takeWhile Hg.isPart) = false := by simpa using a1
     by_cases a2 : Hg.r8name ((s.drop k).takeWhile Hg.isPart) = true
     ·
      rw [if_pos a2] at hr
      exact hfin _ (.name _ (fun _ => hp) rfl a1' a2) rfl hpos hle hr
     ·
      rw [if_neg a2] at hr
      split at hr
      ·
       exact hfin _ (.num _ (fun _ => hp) rfl a1' (by simpa using a2)) rfl hpos hle hr
      ·
       cases hr
   ·
    have hp : Hg.isPart s[k] = false := by
     cases h : Hg.isPart s[k] with
     | false => rfl
     | true => exact absurd ((part_cls _ h3).2 h) h0
    rw [if_neg h0] at hr
    by_cases a1 : Hg.inL Hg.signs ((s.drop k).take 2) = true ∧ 2 ≤ (s.drop k).length
    ·
     rw [if_pos a1, if_pos a1.1] at hr
     have hl2 : ((s.drop k).take 2).length = 2 := by rw [List.length_take]; omega
     exact hfin _ (.two (fun _ => hp) a1.1 (by omega)) rfl (by show 0 < ((s.drop k).take 2).length; omega) (by show ((s.drop k).take 2).length ≤ _; omega) hr
    ·
     rw [if_neg a1] at hr
     split at hr
     ·
      rename_i a2
      have hl1 : ((s.drop k).take 1).length = 1 := by rw [List.length_take]; omega
      refine hfin _ (.one (fun _ => hp) ?_ a2) rfl (by show 0 < ((s.drop k).take 1).length; omega) (by show ((s.drop k).take 1).length ≤ _; omega) hr
      cases hin : Hg.inL Hg.signs ((s.drop k).take 2) with
      | false => exact .inl rfl
      | true =>
        refine .inr ?_
        rcases Nat.lt_or_ge (s.drop k).length 2 with hx | hx
        ·
         omega
        ·
         exact absurd ⟨hin, hx⟩ a1
     ·
      cases hr
end Go.Proofs.YtoelmnamlnbdhaaGreatDoor
