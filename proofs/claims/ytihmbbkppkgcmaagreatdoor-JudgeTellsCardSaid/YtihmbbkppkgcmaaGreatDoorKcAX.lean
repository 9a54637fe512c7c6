/-
  Part of a proof: contracts of functions that the claim reaches, and plain lemmas.
-/
import Derived.Test.YtihmbbkppkgcmaaGreatDoorKcAT
import Derived.Test.YtihmbbkppkgcmaaGreatDoorKcAD
import Derived.Test.YtihmbbkppkgcmaaGreatDoorKcAN
import Derived.Test.YtihmbbkppkgcmaaGreatDoorKcAK
import Derived.Deep.RegionHeld3
import Derived.Deep.CutBlock
import Derived.Test.YtihmbbkppkgcmaaGreatDoorKcAU
import Derived.Test.YtihmbbkppkgcmaaGreatDoorKcAW
set_option linter.all false
namespace Go.Proofs.YtihmbbkppkgcmaaGreatDoor
open Go.RowKit
@[simp, go_sem] theorem bytes_append7 (a b : List UInt8) : ByteArray.mk a.toArray ++ ByteArray.mk b.toArray = ByteArray.mk (a ++ b).toArray := by
 apply ByteArray.ext
 rw [ByteArray.data_append]
 simp
structure Rok (l : List Hg.Row) : Prop where
 len : l.length ≤ 1000000000
 sum : Hg.kidsSum l ≤ 100000000
 kids : ∀ (j : Nat) (r : Hg.Row), l[j]? = some r → r.node.kids.length ≤ 100000000
 kind : ∀ (j : Nat) (r : Hg.Row), l[j]? = some r → r.node.kind ≤ 255
 name : ∀ (j : Nat) (r : Hg.Row), l[j]? = some r → r.node.name.length ≤ 1000000000
 num : ∀ (j : Nat) (r : Hg.Row), l[j]? = some r → r.node.num ≤ 9223372036854775807
theorem Rok.kids9 {l : List Hg.Row} (h : Rok l) : ∀ (j : Nat) (r : Hg.Row), l[j]? = some r → r.node.kids.length ≤ 1000000000 := fun j r hr => by have := h.kids j r hr; omega
theorem Rok.nkind {l : List Hg.Row} (h : Rok l) (id : Nat) : (Hg.nodeOf l id).kind ≤ 255 := by
 cases hk : Hg.atI l id with
 | none => rw [Hg.nodeOf_none l id hk]; simp [Hg.Node.zero]
 | some k => rw [Hg.nodeOf_at l id k hk]; exact h.kind k _ (atI_row hk)
theorem Rok.nname {l : List Hg.Row} (h : Rok l) (id : Nat) : (Hg.nodeOf l id).name.length ≤ 1000000000 := by
 cases hk : Hg.atI l id with
 | none => rw [Hg.nodeOf_none l id hk]; simp [Hg.Node.zero]
 | some k => rw [Hg.nodeOf_at l id k hk]; exact h.name k _ (atI_row hk)
theorem Rok.nkids {l : List Hg.Row} (h : Rok l) (id : Nat) : (Hg.nodeOf l id).kids.length ≤ 100000000 := by
 cases hk : Hg.atI l id with
 | none => rw [Hg.nodeOf_none l id hk]; simp [Hg.Node.zero]
 | some k => rw [Hg.nodeOf_at l id k hk]; exact h.kids k _ (atI_row hk)
@[reducible] def nodeBox (n : Hg.Node) (ka : Option Addr) (kc : Nat) : Obj :=
 .cells #[.int .u8 (n.kind : Int), strV n.name, .int .i64 n.num, .int .u8 (n.type : Int), .int .u64 (n.ref : Int), .slice ka n.kids.length kc] 31
theorem boxes {w w1 : World} {r : Hg.Row} {ka : Option Addr} {kc : Nat} (h : Below ((w.alloc (rowBox r ka kc)).alloc (nodeBox r.node ka kc)).heap.size ((w.alloc (rowBox r ka kc)).alloc (nodeBox r.node ka kc)) w1) :
 w1.cell? ⟨w.heap.size, 0, none⟩ = some (.int .u64 (r.id : Int)) ∧ w1.cell? ⟨w.heap.size + 1, 0, none⟩ = some (.int .u8 (r.node.kind : Int)) ∧ w1.cell? ⟨w.heap.size + 1, 1, none⟩ = some (strV r.node.name) ∧
 w1.cell? ⟨w.heap.size + 1, 2, none⟩ = some (.int .i64 r.node.num) ∧ w1.cell? ⟨w.heap.size + 1, 3, none⟩ = some (.int .u8 (r.node.type : Int)) ∧ w1.cell? ⟨w.heap.size + 1, 4, none⟩ = some (.int .u64 (r.node.ref : Int)) ∧
 w1.cell? ⟨w.heap.size + 1, 5, none⟩ = some (.slice ka r.node.kids.length kc) ∧ w.heap.size + 1 < w1.heap.size ∧ Below w.heap.size w w1 := by
 obtain ⟨⟨k0, k1, k2, k3, k4, k5⟩, _, hs, hb⟩ := box6 h
 obtain ⟨⟨d0, _⟩, hs2, hb2⟩ := box7 hb
 simp only [World.size_alloc] at k0 k1 k2 k3 k4 k5 hs
 exact ⟨d0, k0, k1, k2, k3, k4, k5, hs, hb2⟩
theorem classes_snoc (l : List Hg.Row) (ks : List Nat) (m : Nat) (h : m < ks.length) : Hg.classes l (ks.take (m + 1)) = Hg.classes l (ks.take m) ++ [Hg.classOf (Hg.nodeOf l ks[m]).kind] := by
 unfold Hg.classes Hg.kindOf
 rw [List.take_succ_eq_append_getElem h, List.map_append]; rfl
theorem classes_len (l : List Hg.Row) (ks : List Nat) : (Hg.classes l ks).length = ks.length := by simp [Hg.classes]
theorem sc3_t1 (r : Hg.Row) (h : r.node.type = 1) : Hg.sc3 r = !(Hg.typedK r.node.kind) := by
 unfold Hg.sc3; rw [h]; cases Hg.typedK r.node.kind <;> decide
theorem sc3_t2 (r : Hg.Row) (h : r.node.type = 2) : Hg.sc3 r = !(Hg.typedK r.node.kind) := by
 unfold Hg.sc3; rw [h]; cases Hg.typedK r.node.kind <;> decide
theorem sc3_t0 (r : Hg.Row) (h : r.node.type = 0) : Hg.sc3 r = Hg.typedK r.node.kind := by
 unfold Hg.sc3; rw [h]; cases Hg.typedK r.node.kind <;> decide
theorem sc3_tx (r : Hg.Row) (h0 : ¬ r.node.type = 0) (h1 : ¬ r.node.type = 1) (h2 : ¬ r.node.type = 2) : Hg.sc3 r = true := by
 unfold Hg.sc3; cases Hg.typedK r.node.kind <;> simp [h0, h1, h2]
set_option maxHeartbeats 16000000 in
set_option maxRecDepth 100000 in
theorem shapedGo10_any (B : Nat) (v : Value) (l : List Hg.Row) (w : World) (hB : B ≤ w.heap.size) (hx : RowsAt w B v l) (hl : Rok l) (b : Bool) (hsh : Hg.shaped l = some b) :
 Calls Tryz.prog 44 #[v] w fun e w' => e = .returned (.bool b) ∧ Below w.heap.size w w' := by
 have hX := Lib.hid hx
 have HL := Lib.hid hl
 obtain ⟨a, c, rfl⟩ := hx.form
 have hlen := hl.len
 have T := Lib.hid (tree7_any B (.slice a l.length c) l w hB hX.out hlen hl.sum hl.kids9)
 clear hx hl
 unfold Hg.shaped at hsh
 cases htr : Hg.tree l
 ·
  rw [if_pos htr] at hsh
  injection hsh with hsh
  rw [htr] at T
  subst hsh
  clear htr
  go_enter Tryz.func44, Tryz.ntmps44
  go_wp2_with (go_at_call 74; refine T.out.mono ?_; rintro e w1 ⟨rfl, hb1⟩)
  go_ret
  exact ⟨rfl, hb1⟩
 rw [if_neg (by simp [htr])] at hsh
 rw [htr] at T
 have HSH := Lib.hid hsh
 clear htr hsh
 go_enter Tryz.func44, Tryz.ntmps44
 go_wp2_with (go_at_call 74; refine T.out.mono ?_; rintro e w1 ⟨rfl, hb1⟩)
 have hI := hb1
 go_loopw [23] (fun q wr => ∃ (i : Nat), q = .int .i64 i ∧ i ≤ l.length ∧ Hg.shapedGo l (l.drop i) = Hg.shapedGo l l ∧ Below w.heap.size w wr) (fun q _ => l.length - (intOf q).toNat)
 case atStart => exact ⟨0, rfl, Nat.zero_le _, rfl, hI⟩
 case round =>
  obtain ⟨i, rfl, hi, hg, hbw⟩ := hrel
  have HG := Lib.hid hg
  clear hg hI hb1 T
  obtain ⟨wo, rfl⟩ : ∃ wo : World, wo = wr := ⟨_, rfl⟩
  by_cases hlt : i < l.length
  ·
   have hri : l[i]? = some l[i] := List.getElem?_eq_getElem hlt
   obtain ⟨br, orr, ki, kci, rfl, _, hkid, d0, d1, d2, d3, d4, d5, d6⟩ := (hX.out.below hbw hB).at_ hri
   have HK := Lib.hid hkid
   have hkl2 := HL.out.kids i l[i] hri
   have hnl := HL.out.name i l[i] hri
   have hkd := HL.out.kind i l[i] hri
   have hnum := HL.out.num i l[i] hri
   have hstep : Hg.shapedGo l (l[i] :: l.drop (i + 1)) = Hg.shapedGo l l := by rw [← List.drop_eq_getElem_cons hlt]; exact HG.out
   rw [Hg.shapedGo] at hstep
   clear hkid hri HG
   have HS := Lib.hid hstep
   clear hstep
   generalize l[i] = r at d0 d1 d2 d3 d4 d5 d6 HK hkl2 hnl hkd hnum HS
   have hBw : B ≤ wo.heap.size := Nat.le_trans hB hbw.size
   have hI2 := Below.refl ((wo.alloc (rowBox r ki kci)).alloc (nodeBox r.node ki kci)).heap.size ((wo.alloc (rowBox r ki kci)).alloc (nodeBox r.node ki kci))
   have HI2 := Lib.hid hI2
   clear hI2
   have TN := fun x W h1 h2 => Lib.hid (node10_any B (.slice (some ⟨br, orr, none⟩) l.length c) l x W h1 h2 hlen)
   go_wp2_with fail
   go_loopw [6, 32] (fun p q wr => ∃ (m : Nat), q = .int .i64 m ∧ m ≤ r.node.kids.length ∧ p = strV (Hg.classes l (r.node.kids.take m)) ∧ Below ((wo.alloc (rowBox r ki kci)).alloc (nodeBox r.node ki kci)).heap.size ((wo.alloc (rowBox r ki kci)).alloc (nodeBox r.node ki kci)) wr) (fun _ q _ => r.node.kids.length - (intOf q).toNat)
   case atStart => exact ⟨0, rfl, Nat.zero_le _, rfl, HI2.out⟩
   case round =>
    obtain ⟨m, rfl, hm, rfl, hbW⟩ := hrel
    obtain ⟨x0, y0, y1, y2, y3, y4, y5, hszW, hbbW⟩ := boxes hbW
    have hbwW : Below w.heap.size w wr := hbw.trans (hbbW.mono hbw.size)
    have hBW : B ≤ wr.heap.size := Nat.le_trans hB hbwW.size
    by_cases hlm : m < r.node.kids.length
    ·
     obtain ⟨b3, o3, rfl, _, kc3⟩ := (HK.out.below hbbW hBw).idAt hlm
     have hcs := Lib.hid (classes_snoc l r.node.kids m hlm)
     have hcl : (Hg.classes l (r.node.kids.take m)).length ≤ 100000000 := by rw [classes_len]; simp; omega
     have hcl2 : ¬ 9223372036854775807 < (Hg.classes l (r.node.kids.take m)).length + 1 := by omega
     have hkx := HL.out.nkind r.node.kids[m]
     have T1 := fun W h1 h2 => TN r.node.kids[m] W h1 h2
     generalize r.node.kids[m] = x at kc3 hcs hkx T1
     generalize Hg.nodeOf l x = nx at hcs hkx T1
     go_wp2_with (first
      | (go_at_call 76; refine ((T1 _ hBW (hX.out.below hbwW hB)).out).mono ?_; rintro e w4 ⟨kx, cx, rfl, _, hb4⟩)
      | (go_at_call 75; refine (class10_any nx.kind hkx _).mono ?_; rintro e w' ⟨rfl, rfl⟩))
     go_roundw
     case rel => exact ⟨m + 1, by go_num, by omega, by rw [hcs.out], hbW.trans (hb4.mono hbW.size)⟩
     case measure => simp [intOf]; omega
    ·
     obtain rfl : m = r.node.kids.length := by omega
     rw [List.take_length]
     have hcl : (Hg.classes l r.node.kids).length ≤ 100000000 := by rw [classes_len]; omega
     generalize hcs : Hg.classes l r.node.kids = cs at hcl
     have HCS := Lib.hid hcs
     clear hcs
     go_upto_region 14 with (go_at_call 8; refine (parent_any B _ l r.id _ hBW (hX.out.below hbwW hB) hlen HL.out.kids9).mono ?_; rintro e w5 ⟨rfl, hb5⟩)
     have hbW5 := hbW.trans (hb5.mono hbW.size)
     clear x0 y0 y1 y2 y3 y4 y5 hszW
     obtain ⟨x0, y0, y1, y2, y3, y4, y5, hszW, hbbW5⟩ := boxes hbW5
     have hbw5 : Below w.heap.size w w5 := hbw.trans (hbbW5.mono hbw.size)
     have hB5 : B ≤ w5.heap.size := Nat.le_trans hB hbw5.size
     have hR5 := hX.out.below hbw5 hB
     have HR5 := Lib.hid hR5
     clear hR5
     go_cut [79] from 24 to 183 (fun tv wx => tv = .bool (Hg.sc1 l r) ∧ Below ((wo.alloc (rowBox r ki kci)).alloc (nodeBox r.node ki kci)).heap.size ((wo.alloc (rowBox r ki kci)).alloc (nodeBox r.node ki kci)) wx)
     case first => as_aux_lemma =>
      by_cases a1 : r.node.kind < 1
      ·
       have hsc := Lib.hid (show Hg.sc1 l r = true from decide_eq_true (.inl a1))
       have q1 : decide ((r.node.kind : Int) < 1) = true := by simp; omega
       clear a1
       go_quiet (fail)
       go_wp2
       go_meet
       case rel => exact ⟨by rw [hsc.out], below_drewN hbW5 _⟩
      by_cases a2 : 20 < r.node.kind
      ·
       have hsc := Lib.hid (show Hg.sc1 l r = true from decide_eq_true (.inr (.inl a2)))
       have q1 : decide ((r.node.kind : Int) < 1) = false := by simp; omega
       have q2 : decide ((20 : Int) < (r.node.kind : Int)) = true := by simp; omega
       clear a1 a2
       go_quiet (fail)
       go_wp2
       go_meet
       case rel => exact ⟨by rw [hsc.out], below_drewN hbW5 _⟩
      have q1 : decide ((r.node.kind : Int) < 1) = false := by simp; omega
      have q2 : decide ((20 : Int) < (r.node.kind : Int)) = false := by simp; omega
      by_cases b1 : r.node.kind = 1
      ·
       by_cases b2 : r.id = 1
       ·
        have a3 : decide (r.node.kind = 1) = decide (r.id = 1) := by simp [b1, b2]
        have q3 : ((r.node.kind : Int) == 1) = true := by simp <;> omega
        have q4 : ((r.id : Int) == 1) = true := by simp <;> omega
        have hfit := fits10_any r.node.kind hkd cs (by omega) (decide (Hg.kindOf l (Hg.parentOf l r.id).1 = 3))
        have HFIT := Lib.hid hfit
        clear hfit
        have T2 := fun W h1 h2 => TN (Hg.parentOf l r.id).1 W h1 h2
        have hsc : Hg.sc1 l r = !Hg.fits r.node.kind cs (decide (Hg.kindOf l (Hg.parentOf l r.id).1 = 3)) := by
         unfold Hg.sc1
         rw [HCS.out, a3]
         have n1 : ¬ r.node.kind < 1 := a1
         have n2 : ¬ 20 < r.node.kind := a2
         simp [n1, n2]
        have HSC := Lib.hid hsc
        clear hsc a1 a2 a3 b1 b2
        unfold Hg.kindOf at HFIT HSC
        generalize Hg.nodeOf l (Hg.parentOf l r.id).1 = nu at HFIT HSC T2
        have hu : ((nu.kind : Int) == 3) = decide (nu.kind = 3) := by rw [Bool.eq_iff_iff]; simp only [beq_iff_eq, decide_eq_true_eq]; omega
        go_region_held3 (fun w' => w'.cell? ⟨wo.heap.size, 0, none⟩ = some (.int .u64 (r.id : Int)) ∧ w'.cell? ⟨wo.heap.size + 1, 0, none⟩ = some (.int .u8 (r.node.kind : Int))) (first | exact ⟨x0, y0⟩ | exact ⟨x0', y0'⟩ | exact ⟨x0'', y0''⟩) (first | (go_at_call 76; refine ((T2 w5.drew hB5 HR5.out).out).mono ?_; rintro e w6 ⟨kx, cx, rfl, _, hb6⟩; have hbW6 := hbW5.drew.trans (hb6.mono hbW5.size); obtain ⟨x0', y0', _, _, _, _, _, _, _⟩ := boxes hbW6) | (go_at_call 77; refine (HFIT.out _).mono ?_; rintro e w7 ⟨rfl, hb7⟩; have hbW7 := hbW6.trans (hb7.mono hbW6.size); obtain ⟨x0'', y0'', _, _, _, _, _, _, _⟩ := boxes hbW7))
        go_wp2
        go_meet
        case rel => exact ⟨by rw [HSC.out], hbW7⟩
       ·
        have a3 : decide (r.node.kind = 1) ≠ decide (r.id = 1) := by simp [b1, b2]
        have hsc := Lib.hid (show Hg.sc1 l r = true from decide_eq_true (.inr (.inr (.inl a3))))
        have q3 : ((r.node.kind : Int) == 1) = true := by simp <;> omega
        have q4 : ((r.id : Int) == 1) = false := by simp <;> omega
        clear a1 a2 a3 b1 b2
        go_quiet (fail)
        go_wp2
        go_meet
        case rel => exact ⟨by rw [hsc.out], below_drewN hbW5 _⟩
      ·
       by_cases b2 : r.id = 1
       ·
        have a3 : decide (r.node.kind = 1) ≠ decide (r.id = 1) := by simp [b1, b2]
        have hsc := Lib.hid (show Hg.sc1 l r = true from decide_eq_true (.inr (.inr (.inl a3))))
        have q3 : ((r.node.kind : Int) == 1) = false := by simp <;> omega
        have q4 : ((r.id : Int) == 1) = true := by simp <;> omega
        clear a1 a2 a3 b1 b2
        go_quiet (fail)
        go_wp2
        go_meet
        case rel => exact ⟨by rw [hsc.out], below_drewN hbW5 _⟩
       ·
        have a3 : decide (r.node.kind = 1) = decide (r.id = 1) := by simp [b1, b2]
        have q3 : ((r.node.kind : Int) == 1) = false := by simp <;> omega
        have q4 : ((r.id : Int) == 1) = false := by simp <;> omega
        have hfit := fits10_any r.node.kind hkd cs (by omega) (decide (Hg.kindOf l (Hg.parentOf l r.id).1 = 3))
        have HFIT := Lib.hid hfit
        clear hfit
        have T2 := fun W h1 h2 => TN (Hg.parentOf l r.id).1 W h1 h2
        have hsc : Hg.sc1 l r = !Hg.fits r.node.kind cs (decide (Hg.kindOf l (Hg.parentOf l r.id).1 = 3)) := by
         unfold Hg.sc1
         rw [HCS.out, a3]
         have n1 : ¬ r.node.kind < 1 := a1
         have n2 : ¬ 20 < r.node.kind := a2
         simp [n1, n2]
        have HSC := Lib.hid hsc
        clear hsc a1 a2 a3 b1 b2
        unfold Hg.kindOf at HFIT HSC
        generalize Hg.nodeOf l (Hg.parentOf l r.id).1 = nu at HFIT HSC T2
        have hu : ((nu.kind : Int) == 3) = decide (nu.kind = 3) := by rw [Bool.eq_iff_iff]; simp only [beq_iff_eq, decide_eq_true_eq]; omega
        go_region_held3 (fun w' => w'.cell? ⟨wo.heap.size, 0, none⟩ = some (.int .u64 (r.id : Int)) ∧ w'.cell? ⟨wo.heap.size + 1, 0, none⟩ = some (.int .u8 (r.node.kind : Int))) (first | exact ⟨x0, y0⟩ | exact ⟨x0', y0'⟩ | exact ⟨x0'', y0''⟩) (first | (go_at_call 76; refine ((T2 w5.drew hB5 HR5.out).out).mono ?_; rintro e w6 ⟨kx, cx, rfl, _, hb6⟩; have hbW6 := hbW5.drew.trans (hb6.mono hbW5.size); obtain ⟨x0', y0', _, _, _, _, _, _, _⟩ := boxes hbW6) | (go_at_call 77; refine (HFIT.out _).mono ?_; rintro e w7 ⟨rfl, hb7⟩; have hbW7 := hbW6.trans (hb7.mono hbW6.size); obtain ⟨x0'', y0'', _, _, _, _, _, _, _⟩ := boxes hbW7))
        go_wp2
        go_meet
        case rel => exact ⟨by rw [HSC.out], hbW7⟩
     case rest => as_aux_lemma =>
      obtain ⟨rfl, hbc⟩ := hcut
      clear x0 y0 y1 y2 y3 y4 y5 hszW hbbW5 hbW5 hb5 hbW HR5 hB5 hbw5 hbwW hBW hbbW HCS hcl
      obtain ⟨x0, y0, y1, y2, y3, y4, y5, hszC, hbbC⟩ := boxes hbc
      have hbwC : Below w.heap.size w wc := hbw.trans (hbbC.mono hbw.size)
      have hrw := Hg.shapedRow_eq l r hnum
      have hbad : Hg.shapedRow l r = false → b = false := fun h => by
       have h1 := HS.out
       rw [if_pos h] at h1
       have h2 := HSH.out
       rw [if_pos h1.symm] at h2
       injection h2 with h2
       exact h2.symm
      have hgood : Hg.shapedRow l r = true → Hg.shapedGo l (l.drop (i + 1)) = Hg.shapedGo l l := fun h => by
       have h1 := HS.out
       rw [if_neg (by simp [h])] at h1
       exact h1
      rw [hrw] at hbad hgood
      have HBAD := Lib.hid hbad
      have HGOOD := Lib.hid hgood
      clear hrw hbad hgood HS
      obtain ⟨wd, rfl⟩ : ∃ x : World, x = wc := ⟨_, rfl⟩
      cases hs1 : Hg.sc1 l r
      rotate_left
      ·
       have HF := Lib.hid (HBAD.out (by rw [hs1]; rfl))
       clear hs1
       go_wp2
       go_ret
       exact ⟨ret_bool HF.out.symm, hbwC⟩
      have HS1 := Lib.hid hs1
      clear hs1
      go_upto_region 16 with fail
      go_cut [11] from 24 to 183 (fun tv wx => tv = .bool (Hg.isNamed r.node.kind) ∧ wd = wx)
      case first => as_aux_lemma =>
       by_cases k2 : r.node.kind = 2
       ·
        have hn := Lib.hid (show Hg.isNamed r.node.kind = true by rw [k2]; rfl)
        have q1 : ((r.node.kind : Int) == 2) = true := by simp [k2]
        clear k2
        go_wp2
        go_meet
        case rel => exact ⟨by rw [hn.out], rfl⟩
       have q1 : ((r.node.kind : Int) == 2) = false := by simp; omega
       by_cases k3 : r.node.kind = 3
       ·
        have hn := Lib.hid (show Hg.isNamed r.node.kind = true by rw [k3]; rfl)
        have q2 : ((r.node.kind : Int) == 3) = true := by simp [k3]
        clear k2 k3
        go_wp2
        go_meet
        case rel => exact ⟨by rw [hn.out], rfl⟩
       have q2 : ((r.node.kind : Int) == 3) = false := by simp; omega
       by_cases k4 : r.node.kind = 4
       ·
        have hn := Lib.hid (show Hg.isNamed r.node.kind = true by rw [k4]; rfl)
        have q3 : ((r.node.kind : Int) == 4) = true := by simp [k4]
        clear k2 k3 k4
        go_wp2
        go_meet
        case rel => exact ⟨by rw [hn.out], rfl⟩
       have q3 : ((r.node.kind : Int) == 4) = false := by simp; omega
       by_cases k6 : r.node.kind = 6
       ·
        have hn := Lib.hid (show Hg.isNamed r.node.kind = true by rw [k6]; rfl)
        have q4 : ((r.node.kind : Int) == 6) = true := by simp [k6]
        clear k2 k3 k4 k6
        go_wp2
        go_meet
        case rel => exact ⟨by rw [hn.out], rfl⟩
       have q4 : ((r.node.kind : Int) == 6) = false := by simp; omega
       have hn := Lib.hid (show Hg.isNamed r.node.kind = false by unfold Hg.isNamed; simp [k2, k3, k4, k6])
       clear k2 k3 k4 k6
       go_wp2
       go_meet
       case rel => exact ⟨by rw [hn.out], rfl⟩
      case rest =>
       obtain ⟨rfl, rfl⟩ := hcut
       go_upto_region 17 with fail
       go_cut [11, 116] from 24 to 183 (fun nv tv wx => nv = .bool (Hg.isNamed r.node.kind) ∧ tv = .bool (Hg.sc2 r) ∧ Below ((wo.alloc (rowBox r ki kci)).alloc (nodeBox r.node ki kci)).heap.size ((wo.alloc (rowBox r ki kci)).alloc (nodeBox r.node ki kci)) wx)
       case first => as_aux_lemma =>
        cases hnm : Hg.isNamed r.node.kind
        ·
         by_cases hne : r.node.name = []
         ·
          have hsc := Lib.hid (show Hg.sc2 r = false by unfold Hg.sc2; rw [hnm, hne]; rfl)
          have q1 : (r.node.name != []) = false := by simp [hne]
          have HN := Lib.hid hnm
          clear hnm
          go_wp2
          go_meet
          case rel => exact ⟨by rw [HN.out], by rw [hsc.out], hbc⟩
         ·
          have hsc := Lib.hid (show Hg.sc2 r = true by unfold Hg.sc2; rw [hnm]; simp [hne])
          have q1 : (r.node.name != []) = true := by simp [hne]
          have HN := Lib.hid hnm
          clear hnm
          go_wp2
          go_meet
          case rel => exact ⟨by rw [HN.out], by rw [hsc.out], hbc⟩
        ·
         by_cases hne : r.node.name = []
         ·
          have hsc := Lib.hid (show Hg.sc2 r = true by unfold Hg.sc2; rw [hnm, hne]; rfl)
          have q1 : (r.node.name != []) = false := by simp [hne]
          have HN := Lib.hid hnm
          clear hnm
          go_wp2
          go_meet
          case rel => exact ⟨by rw [HN.out], by rw [hsc.out], hbc⟩
         ·
          have q1 : (r.node.name != []) = true := by simp [hne]
          cases hr8 : Hg.r8name r.node.name
          ·
           have hsc := Lib.hid (show Hg.sc2 r = true by unfold Hg.sc2; rw [hnm, hr8]; simp)
           have H8 := Lib.hid hr8
           have HN := Lib.hid hnm
           clear hnm hr8
           go_wp2_with (go_at_call 48; refine (name8_any _ hnl _).mono ?_; rintro e w' ⟨rfl, rfl⟩; rw [H8.out])
           go_meet
           case rel => exact ⟨by rw [HN.out], by rw [hsc.out], hbc⟩
          ·
           have hsc := Lib.hid (show Hg.sc2 r = Hg.inL Hg.words r.node.name by unfold Hg.sc2; rw [hnm, hr8]; simp [hne])
           have H8 := Lib.hid hr8
           have HN := Lib.hid hnm
           clear hnm hr8
           go_wp2_with (first
            | (go_at_call 48; refine (name8_any _ hnl _).mono ?_; rintro e w' ⟨rfl, rfl⟩; rw [H8.out])
            | (go_at_call 78; refine (word10_any _ _).mono ?_; rintro e w6 ⟨rfl, hb6⟩; have hbW6 := hbc.trans (hb6.mono hbc.size)))
           go_meet
           case rel => exact ⟨by rw [HN.out], by rw [hsc.out, show r.node.name.isEmpty = false by simp [hne]]; rfl, hbW6⟩
       case rest => as_aux_lemma =>
        obtain ⟨rfl, rfl, hbc2⟩ := hcut
        clear x0 y0 y1 y2 y3 y4 y5 hszC hbwC
        obtain ⟨x0, y0, y1, y2, y3, y4, y5, hszC, hbbC2⟩ := boxes hbc2
        have hbwC : Below w.heap.size w wc := hbw.trans (hbbC2.mono hbw.size)
        clear hbc hbbC
        obtain ⟨wd2, rfl⟩ : ∃ x : World, x = wc := ⟨_, rfl⟩
        cases hs2 : Hg.sc2 r
        rotate_left
        ·
         have HF := Lib.hid (HBAD.out (by rw [HS1.out, hs2]; rfl))
         clear hs2
         go_wp2
         go_ret
         exact ⟨ret_bool HF.out.symm, hbwC⟩
        have HS2 := Lib.hid hs2
        clear hs2
        go_upto_region 19 with fail
        go_cut [11, 12] from 24 to 183 (fun nv tv wx => nv = .bool (Hg.isNamed r.node.kind) ∧ tv = .bool (Hg.typedK r.node.kind) ∧ wd2 = wx)
        case first => as_aux_lemma =>
         cases hnm : Hg.isNamed r.node.kind
         ·
          have hn := Lib.hid (show Hg.typedK r.node.kind = false by unfold Hg.typedK; rw [hnm]; rfl)
          have HN := Lib.hid hnm
          clear hnm
          go_wp2
          go_meet
          case rel => exact ⟨by rw [HN.out], by rw [hn.out], rfl⟩
         ·
          by_cases k2 : r.node.kind = 2
          ·
           have hn := Lib.hid (show Hg.typedK r.node.kind = false by unfold Hg.typedK; rw [k2]; rfl)
           have q1 : ((r.node.kind : Int) != 2) = false := by simp [k2]
           have HN := Lib.hid hnm
           clear hnm k2
           go_wp2
           go_meet
           case rel => exact ⟨by rw [HN.out], by rw [hn.out], rfl⟩
          ·
           have hn := Lib.hid (show Hg.typedK r.node.kind = true by unfold Hg.typedK; rw [hnm]; simp [k2])
           have q1 : ((r.node.kind : Int) != 2) = true := by simp; omega
           have HN := Lib.hid hnm
           clear hnm k2
           go_wp2
           go_meet
           case rel => exact ⟨by rw [HN.out], by rw [hn.out], rfl⟩
        case rest =>
         obtain ⟨rfl, rfl, rfl⟩ := hcut
         go_upto_region 20 with fail
         go_cut [12, 141] from 24 to 183 (fun nv tv wx => nv = .bool (Hg.typedK r.node.kind) ∧ tv = .bool (Hg.sc3 r) ∧ wd2 = wx)
         case first => as_aux_lemma =>
          cases hty : Hg.typedK r.node.kind
          all_goals
           have HN := Lib.hid hty
           by_cases t1 : r.node.type = 1
           ·
            have hsc := Lib.hid ((sc3_t1 r t1).trans (congrArg not hty))
            have q1 : ((r.node.type : Int) == 1) = true := by simp [t1]
            clear hty t1
            go_wp2
            go_meet
            case rel => exact ⟨by rw [HN.out], by rw [hsc.out] <;> rfl, rfl⟩
           have q1 : ((r.node.type : Int) == 1) = false := by simp; omega
           by_cases t2 : r.node.type = 2
           ·
            have hsc := Lib.hid ((sc3_t2 r t2).trans (congrArg not hty))
            have q2 : ((r.node.type : Int) == 2) = true := by simp [t2]
            clear hty t1 t2
            go_wp2
            go_meet
            case rel => exact ⟨by rw [HN.out], by rw [hsc.out] <;> rfl, rfl⟩
           have q2 : ((r.node.type : Int) == 2) = false := by simp; omega
           by_cases t0 : r.node.type = 0
           ·
            have hsc := Lib.hid ((sc3_t0 r t0).trans hty)
            have q3 : ((r.node.type : Int) != 0) = false := by simp [t0]
            clear hty t1 t2 t0
            go_wp2
            go_meet
            case rel => exact ⟨by rw [HN.out], by rw [hsc.out] <;> rfl, rfl⟩
           have q3 : ((r.node.type : Int) != 0) = true := by simp; omega
           have hsc := Lib.hid (sc3_tx r t0 t1 t2)
           clear hty t1 t2 t0
           go_wp2
           go_meet
           case rel => exact ⟨by rw [HN.out], by rw [hsc.out] <;> rfl, rfl⟩
         case rest => as_aux_lemma =>
          obtain ⟨rfl, rfl, rfl⟩ := hcut
          cases hs3 : Hg.sc3 r
          rotate_left
          ·
           have HF := Lib.hid (HBAD.out (by rw [HS1.out, HS2.out, hs3]; rfl))
           clear hs3
           go_wp2
           go_ret
           exact ⟨ret_bool HF.out.symm, hbwC⟩
          have HS3 := Lib.hid hs3
          clear hs3
          have hBC : B ≤ wd2.heap.size := Nat.le_trans hB hbwC.size
          have hRC := Lib.hid (hX.out.below hbwC hB)
          have T3 := Lib.hid ((TN r.node.ref wd2 hBC hRC.out).out)
          have hsc4 : Hg.sc4 l r = (if r.node.kind = 7 ∨ r.node.kind = 15 then decide ((Hg.nodeOf l r.node.ref).kind ≠ 4 ∧ (Hg.nodeOf l r.node.ref).kind ≠ 6) else if r.node.kind = 19 then decide ((Hg.nodeOf l r.node.ref).kind ≠ 3) else decide (r.node.ref ≠ 0)) := rfl
          have HSC4 := Lib.hid hsc4
          clear hsc4
          generalize Hg.nodeOf l r.node.ref = nt at T3 HSC4
          go_upto_block 4 with (go_at_call 76; refine T3.out.mono ?_; rintro e w6 ⟨kx, cx, rfl, _, hb6⟩; have hbW6 := hbc2.trans (hb6.mono hbc2.size); clear x0 y0 y1 y2 y3 y4 y5; obtain ⟨x0, y0, y1, y2, y3, y4, y5, _, hbb6⟩ := boxes hbW6)
          have hbw6 : Below w.heap.size w w6 := hbw.trans (hbb6.mono hbw.size)
          go_cut [] from 24 to 183 (fun wx => Hg.sc4 l r = false ∧ w6 = wx)
          case first => as_aux_lemma =>
           by_cases k7 : r.node.kind = 7
           ·
            have q7 : ((r.node.kind : Int) == 7) = true := by simp [k7]
            by_cases n4 : nt.kind = 4
            ·
             have p4 : ((nt.kind : Int) != 4) = false := by simp [n4]
             have hsc : Hg.sc4 l r = false := by rw [HSC4.out, if_pos (.inl k7), decide_eq_false (by omega)]
             have HSC := Lib.hid hsc
             clear hsc k7 n4
             go_wp2
             go_meet
             case rel => exact ⟨HSC.out, rfl⟩
            have p4 : ((nt.kind : Int) != 4) = true := by simp; omega
            by_cases n6 : nt.kind = 6
            ·
             have p6 : ((nt.kind : Int) != 6) = false := by simp [n6]
             have hsc : Hg.sc4 l r = false := by rw [HSC4.out, if_pos (.inl k7), decide_eq_false (by omega)]
             have HSC := Lib.hid hsc
             clear hsc k7 n4 n6
             go_wp2
             go_meet
             case rel => exact ⟨HSC.out, rfl⟩
            have p6 : ((nt.kind : Int) != 6) = true := by simp; omega
            have hsc : Hg.sc4 l r = true := by rw [HSC4.out, if_pos (.inl k7), decide_eq_true ⟨n4, n6⟩]
            have HF := Lib.hid (HBAD.out (by rw [HS1.out, HS2.out, HS3.out, hsc]; rfl))
            clear hsc k7 n4 n6
            go_wp2
            go_ret
            exact ⟨ret_bool HF.out.symm, hbw6⟩
           have q7 : ((r.node.kind : Int) == 7) = false := by simp; omega
           by_cases k15 : r.node.kind = 15
           ·
            have q15 : ((r.node.kind : Int) == 15) = true := by simp [k15]
            by_cases n4 : nt.kind = 4
            ·
             have p4 : ((nt.kind : Int) != 4) = false := by simp [n4]
             have hsc : Hg.sc4 l r = false := by rw [HSC4.out, if_pos (.inr k15), decide_eq_false (by omega)]
             have HSC := Lib.hid hsc
             clear hsc k7 k15 n4
             go_wp2
             go_meet
             case rel => exact ⟨HSC.out, rfl⟩
            have p4 : ((nt.kind : Int) != 4) = true := by simp; omega
            by_cases n6 : nt.kind = 6
            ·
             have p6 : ((nt.kind : Int) != 6) = false := by simp [n6]
             have hsc : Hg.sc4 l r = false := by rw [HSC4.out, if_pos (.inr k15), decide_eq_false (by omega)]
             have HSC := Lib.hid hsc
             clear hsc k7 k15 n4 n6
             go_wp2
             go_meet
             case rel => exact ⟨HSC.out, rfl⟩
            have p6 : ((nt.kind : Int) != 6) = true := by simp; omega
            have hsc : Hg.sc4 l r = true := by rw [HSC4.out, if_pos (.inr k15), decide_eq_true ⟨n4, n6⟩]
            have HF := Lib.hid (HBAD.out (by rw [HS1.out, HS2.out, HS3.out, hsc]; rfl))
            clear hsc k7 k15 n4 n6
            go_wp2
            go_ret
            exact ⟨ret_bool HF.out.symm, hbw6⟩
           have q15 : ((r.node.kind : Int) == 15) = false := by simp; omega
           by_cases k19 : r.node.kind = 19
           ·
            have q19 : ((r.node.kind : Int) == 19) = true := by simp [k19]
            by_cases n3 : nt.kind = 3
            ·
             have p3 : ((nt.kind : Int) != 3) = false := by simp [n3]
             have hsc : Hg.sc4 l r = false := by rw [HSC4.out, if_neg (by omega), if_pos k19, decide_eq_false (by omega)]
             have HSC := Lib.hid hsc
             clear hsc k7 k15 k19 n3
             go_wp2
             go_meet
             case rel => exact ⟨HSC.out, rfl⟩
            have p3 : ((nt.kind : Int) != 3) = true := by simp; omega
            have hsc : Hg.sc4 l r = true := by rw [HSC4.out, if_neg (by omega), if_pos k19, decide_eq_true n3]
            have HF := Lib.hid (HBAD.out (by rw [HS1.out, HS2.out, HS3.out, hsc]; rfl))
            clear hsc k7 k15 k19 n3
            go_wp2
            go_ret
            exact ⟨ret_bool HF.out.symm, hbw6⟩
           have q19 : ((r.node.kind : Int) == 19) = false := by simp; omega
           by_cases n0 : r.node.ref = 0
           ·
            have p0 : ((r.node.ref : Int) != 0) = false := by simp [n0]
            have hsc : Hg.sc4 l r = false := by rw [HSC4.out, if_neg (by omega), if_neg (by omega), decide_eq_false (by omega)]
            have HSC := Lib.hid hsc
            clear hsc k7 k15 k19 n0
            go_wp2
            go_meet
            case rel => exact ⟨HSC.out, rfl⟩
           have p0 : ((r.node.ref : Int) != 0) = true := by simp; omega
           have hsc : Hg.sc4 l r = true := by rw [HSC4.out, if_neg (by omega), if_neg (by omega), decide_eq_true n0]
           have HF := Lib.hid (HBAD.out (by rw [HS1.out, HS2.out, HS3.out, hsc]; rfl))
           clear hsc k7 k15 k19 n0
           go_wp2
           go_ret
           exact ⟨ret_bool HF.out.symm, hbw6⟩
          case rest =>
           obtain ⟨hs4, rfl⟩ := hcut
           have HS4 := Lib.hid hs4
           clear hs4 HSC4 T3
           go_upto_block 5 with fail
           go_cut [14, 15] from 24 to 183 (fun lv hv wx => lv = .int .i64 (Hg.lowOf r.node.kind) ∧ hv = .int .i64 (Hg.highOf r.node.kind) ∧ w6 = wx)
           case first => as_aux_lemma =>
            obtain ⟨l13, l14, l18, lo⟩ := Hg.lowhigh r.node.kind
            by_cases k13 : r.node.kind = 13
            ·
             have HLH := Lib.hid (l13 k13)
             have q1 : ((r.node.kind : Int) == 13) = true := by simp [k13]
             clear l13 l14 l18 lo k13
             go_wp2
             go_meet
             case rel => exact ⟨by rw [HLH.out.1], by rw [HLH.out.2], rfl⟩
            have q1 : ((r.node.kind : Int) == 13) = false := by simp; omega
            by_cases k14 : r.node.kind = 14
            ·
             have HLH := Lib.hid (l14 k14)
             have q2 : ((r.node.kind : Int) == 14) = true := by simp [k14]
             clear l13 l14 l18 lo k13 k14
             go_wp2
             go_meet
             case rel => exact ⟨by rw [HLH.out.1], by rw [HLH.out.2], rfl⟩
            have q2 : ((r.node.kind : Int) == 14) = false := by simp; omega
            by_cases k18 : r.node.kind = 18
            ·
             have HLH := Lib.hid (l18 k18)
             have q3 : ((r.node.kind : Int) == 18) = true := by simp [k18]
             clear l13 l14 l18 lo k13 k14 k18
             go_wp2
             go_meet
             case rel => exact ⟨by rw [HLH.out.1], by rw [HLH.out.2], rfl⟩
            have q3 : ((r.node.kind : Int) == 18) = false := by simp; omega
            have HLH := Lib.hid (lo ⟨k13, k14, k18⟩)
            clear l13 l14 l18 lo k13 k14 k18
            go_wp2
            go_meet
            case rel => exact ⟨by rw [HLH.out.1], by rw [HLH.out.2], rfl⟩
           case rest =>
            obtain ⟨rfl, rfl, rfl⟩ := hcut
            by_cases m1 : r.node.num < Hg.lowOf r.node.kind
            ·
             have HF := Lib.hid (HBAD.out (by rw [HS1.out, HS2.out, HS3.out, HS4.out, show Hg.sc5 r = true from decide_eq_true (.inl m1)]; rfl))
             have q1 : decide (r.node.num < Hg.lowOf r.node.kind) = true := decide_eq_true m1
             clear m1
             go_wp2
             go_ret
             exact ⟨ret_bool HF.out.symm, hbw6⟩
            have q1 : decide (r.node.num < Hg.lowOf r.node.kind) = false := decide_eq_false m1
            by_cases m2 : Hg.highOf r.node.kind < r.node.num
            ·
             have HF := Lib.hid (HBAD.out (by rw [HS1.out, HS2.out, HS3.out, HS4.out, show Hg.sc5 r = true from decide_eq_true (.inr m2)]; rfl))
             have q2 : decide (Hg.highOf r.node.kind < r.node.num) = true := decide_eq_true m2
             clear m1 m2
             go_wp2
             go_ret
             exact ⟨ret_bool HF.out.symm, hbw6⟩
            have q2 : decide (Hg.highOf r.node.kind < r.node.num) = false := decide_eq_false m2
            have HN := Lib.hid (HGOOD.out (by rw [HS1.out, HS2.out, HS3.out, HS4.out, show Hg.sc5 r = false from decide_eq_false (by omega)]; rfl))
            clear m1 m2
            go_wp2
            go_roundw
            case rel =>
             first
             | exact ⟨i + 1, by go_num, by omega, HN.out, hbw6⟩
             | (repeat apply Exists.intro
                refine And.intro ?aa ?bb
                case bb => repeat' first | exact rfl | apply And.intro
                case aa => exact ⟨i + 1, by go_num, by omega, HN.out, hbw6⟩)
            case measure => simp [intOf]; omega
  ·
   obtain rfl : i = l.length := by omega
   have hsd : Hg.shapedDeep l l = some b := by
    have h1 := HG.out
    rw [List.drop_length, Hg.shapedGo] at h1
    have h2 := HSH.out
    rw [if_neg (by rw [← h1]; simp)] at h2
    exact h2
   have HSD := Lib.hid hsd
   have hI := hbw
   clear hsd HG HSH hlt
   go_wp2_with fail
   go_loopw [186] (fun q wr => ∃ (i : Nat), q = .int .i64 i ∧ i ≤ l.length ∧ Hg.shapedDeep l (l.drop i) = some b ∧ Below w.heap.size w wr) (fun q _ => l.length - (intOf q).toNat)
   case atStart => exact ⟨0, rfl, Nat.zero_le _, HSD.out, hI⟩
   case round =>
    obtain ⟨i, rfl, hi, hg, hbw⟩ := hrel
    have HG := Lib.hid hg
    clear hg hI HSD
    by_cases hlt : i < l.length
    ·
     have hri : l[i]? = some l[i] := List.getElem?_eq_getElem hlt
     obtain ⟨br, orr, ki, kci, rfl, _, _, d0, d1, d2, d3, d4, d5, d6⟩ := (hX.out.below hbw hB).at_ hri
     have hstep : Hg.shapedDeep l (l[i] :: l.drop (i + 1)) = some b := by rw [← List.drop_eq_getElem_cons hlt]; exact HG.out
     rw [Hg.shapedDeep] at hstep
     clear hri HG
     generalize l[i] = r at d0 d1 d2 d3 d4 d5 d6 hstep
     have hbx : Below w.heap.size w (wr.alloc (rowBox r ki kci)) := hbw.alloc hbw.size _
     have hBw : B ≤ (wr.alloc (rowBox r ki kci)).heap.size := Nat.le_trans hB hbx.size
     by_cases k3 : r.node.kind = 3
     ·
      rw [if_pos k3] at hstep
      have q1 : ((r.node.kind : Int) == 3) = true := by simp [k3]
      cases hd : Hg.depthF l 201 r.id with
      | none => rw [hd] at hstep; cases hstep
      | some d =>
        rw [hd] at hstep
        dsimp only at hstep
        have hdl := depthF_le l 201 r.id d hd
        have TD := Lib.hid (depth10_any B _ l hlen HL.out.kids9 201 r.id d (wr.alloc (rowBox r ki kci)) (by omega) hBw (hX.out.below hbx hB) hd)
        by_cases h9 : 90 < d
        ·
         rw [if_pos h9] at hstep
         injection hstep with hstep
         have HF := Lib.hid hstep
         have q2 : decide ((90 : Int) < (d : Int)) = true := by simp; omega
         clear hstep h9 k3 hd
         go_wp2_with (go_at_call 79; refine TD.out.mono ?_; rintro e w6 ⟨rfl, hb6⟩)
         go_ret
         exact ⟨ret_bool HF.out, hbx.trans (hb6.mono hbx.size)⟩
        ·
         rw [if_neg h9] at hstep
         have HF := Lib.hid hstep
         have q2 : decide ((90 : Int) < (d : Int)) = false := by simp; omega
         clear hstep h9 k3 hd
         go_wp2_with (go_at_call 79; refine TD.out.mono ?_; rintro e w6 ⟨rfl, hb6⟩)
         go_roundw
         case rel => exact ⟨i + 1, by go_num, by omega, HF.out, hbx.trans (hb6.mono hbx.size)⟩
         case measure => simp [intOf]; omega
     ·
      rw [if_neg k3] at hstep
      have HF := Lib.hid hstep
      have q1 : ((r.node.kind : Int) == 3) = false := by simp; omega
      clear hstep k3
      go_wp2
      go_roundw
      case rel => exact ⟨i + 1, by go_num, by omega, HF.out, hbx⟩
      case measure => simp [intOf]; omega
    ·
     obtain rfl : i = l.length := by omega
     have hbt : true = b := by
      have h1 := HG.out
      rw [List.drop_length, Hg.shapedDeep] at h1
      injection h1
     have HF := Lib.hid hbt
     clear hbt HG
     go_wp2
     go_ret
     exact ⟨ret_bool HF.out, hbw⟩
end Go.Proofs.YtihmbbkppkgcmaaGreatDoor
namespace Go.Proofs.YtihmbbkppkgcmaaGreatDoor
open Go.RowKit
@[reducible] def wkV (al : Hg.Alls) : Value := .agg #[.bool al.clash, .bool al.vis.hidden, .bool al.vis.wrong, .int .u64 0, .slice none 0 0, .bool false]
set_option maxHeartbeats 4000000 in
theorem right11_of (B : Nat) (v : Value) (l : List Hg.Row) (w : World) (hB : B ≤ w.heap.size) (hx : RowsAt w B v l) (hl : Rok l)
 (hAll : ∀ W al, B ≤ W.heap.size → RowsAt W B v l → Hg.shaped l = some true → Hg.allOf l = some al → Calls Tryz.prog 45 #[v, .int .u64 0] W fun e w' => e = .returned (wkV al) ∧ Below W.heap.size W w')
 (r : Nat) (hr : Hg.right11 l = some r) : Calls Tryz.prog 23 #[v] w fun e w' => e = .returned (.int .i64 (r : Int)) ∧ Below w.heap.size w w' := by
 have HX := Lib.hid hx
 have HA := Lib.hid hAll
 unfold Hg.right11 at hr
 obtain ⟨a, c, rfl⟩ := hx.form
 clear hx hAll
 cases hs : Hg.shaped l with
 | none => rw [hs] at hr; cases hr
 | some b =>
   rw [hs] at hr
   have TS := Lib.hid (shapedGo10_any B _ l w hB HX.out hl b hs)
   cases b with
   | false =>
     dsimp only at hr
     injection hr with hr
     subst hr
     go_enter Tryz.func23, Tryz.ntmps23
     go_wp2_with (go_at_call 44; refine TS.out.mono ?_; rintro e w1 ⟨rfl, hb1⟩)
     go_ret
     exact ⟨rfl, hb1⟩
   | true =>
     dsimp only at hr
     cases ha : Hg.allOf l with
     | none => rw [ha] at hr; cases hr
     | some al =>
       rw [ha] at hr
       dsimp only at hr
       injection hr with hr
       have HR := Lib.hid hr
       have TA := fun W h1 h2 => Lib.hid (HA.out W al h1 h2 hs ha)
       have TM := fun W h1 h2 => Lib.hid (main11_any B (.slice a l.length c) l W h1 h2 hl.len (fun x => hl.nkids x))
       clear hr hs ha HA
       generalize Hg.mainOf l = mn at HR TM
       obtain ⟨cl, ⟨hd, wr⟩⟩ := al
       cases cl with
       | true =>
         obtain rfl : 10 = r := HR.out
         go_enter Tryz.func23, Tryz.ntmps23
         go_wp2_with fail
         refine TS.out.mono ?_
         rintro e w1 ⟨rfl, hb1⟩
         go_wp2_with fail
         refine (TA w1 (Nat.le_trans hB hb1.size) (HX.out.below hb1 hB)).out.mono ?_
         rintro e w2 ⟨rfl, hb2⟩
         go_wp2
         go_ret
         exact ⟨rfl, (hb1.trans (hb2.mono hb1.size)).alloc (hb1.trans (hb2.mono hb1.size)).size _⟩
       | false =>
         cases hd with
         | true =>
           obtain rfl : 9 = r := HR.out
           go_enter Tryz.func23, Tryz.ntmps23
           go_wp2_with fail
           refine TS.out.mono ?_
           rintro e w1 ⟨rfl, hb1⟩
           go_wp2_with fail
           refine (TA w1 (Nat.le_trans hB hb1.size) (HX.out.below hb1 hB)).out.mono ?_
           rintro e w2 ⟨rfl, hb2⟩
           go_wp2
           go_ret
           exact ⟨rfl, (hb1.trans (hb2.mono hb1.size)).alloc (hb1.trans (hb2.mono hb1.size)).size _⟩
         | false =>
           cases wr with
           | true =>
             obtain rfl : 11 = r := HR.out
             go_enter Tryz.func23, Tryz.ntmps23
             go_wp2_with fail
             refine TS.out.mono ?_
             rintro e w1 ⟨rfl, hb1⟩
             go_wp2_with fail
             refine (TA w1 (Nat.le_trans hB hb1.size) (HX.out.below hb1 hB)).out.mono ?_
             rintro e w2 ⟨rfl, hb2⟩
             go_wp2
             go_ret
             exact ⟨rfl, (hb1.trans (hb2.mono hb1.size)).alloc (hb1.trans (hb2.mono hb1.size)).size _⟩
           | false =>
             go_enter Tryz.func23, Tryz.ntmps23
             go_wp2_with fail
             refine TS.out.mono ?_
             rintro e w1 ⟨rfl, hb1⟩
             go_wp2_with fail
             refine (TA w1 (Nat.le_trans hB hb1.size) (HX.out.below hb1 hB)).out.mono ?_
             rintro e w2 ⟨rfl, hb2⟩
             have hbx : Below w.heap.size w (w2.alloc (.cells #[.bool false, .bool false, .bool false, .int .u64 0, .slice none 0 0, .bool false] 111)) := (hb1.trans (hb2.mono hb1.size)).alloc (hb1.trans (hb2.mono hb1.size)).size _
             by_cases h0 : mn = 0
             ·
              have hr : 3 = r := by have := HR.out; simpa [h0] using this
              subst hr
              have q0 : ((mn : Int) == 0) = true := by simp [h0]
              clear h0
              go_wp2_with fail
              refine (TM _ (Nat.le_trans hB hbx.size) (HX.out.below hbx hB)).out.mono ?_
              rintro e w3 ⟨rfl, hb3⟩
              go_wp2
              go_ret
              exact ⟨rfl, hbx.trans (hb3.mono hbx.size)⟩
             ·
              have hr : 0 = r := by have := HR.out; simpa [h0] using this
              subst hr
              have q0 : ((mn : Int) == 0) = false := by simp; omega
              clear h0
              go_wp2_with fail
              refine (TM _ (Nat.le_trans hB hbx.size) (HX.out.below hbx hB)).out.mono ?_
              rintro e w3 ⟨rfl, hb3⟩
              go_wp2
              go_ret
              exact ⟨rfl, hbx.trans (hb3.mono hbx.size)⟩
end Go.Proofs.YtihmbbkppkgcmaaGreatDoor
namespace Go.Proofs.YtihmbbkppkgcmaaGreatDoor
open Go.RowKit
theorem shapedGo_mem (l : List Hg.Row) : ∀ (rs : List Hg.Row), Hg.shapedGo l rs = true → ∀ r ∈ rs, Hg.shapedRow l r = true
 | [], _, r, hr => by simp at hr
 | x :: rs, h, r, hr => by
   rw [Hg.shapedGo] at h
   by_cases hx : Hg.shapedRow l x = false
   ·
    rw [if_pos hx] at h; cases h
   ·
    rw [if_neg hx] at h
    rcases List.mem_cons.1 hr with rfl | hr
    ·
     simpa using hx
    ·
     exact shapedGo_mem l rs h r hr
theorem fits_kids (n : Hg.Node) (l : List Hg.Row) (b : Bool) (h : Hg.fits n.kind (Hg.classes l n.kids) b = true) : KidsFor n := by
 have hc : (Hg.classes l n.kids).length = n.kids.length := by simp [Hg.classes]
 unfold Hg.fits at h
 refine ⟨fun hk => ?_, fun hk => ?_⟩
 ·
  rcases hk with hk | hk | hk | hk | hk | hk | hk <;> · rw [hk] at h; simp at h; omega
 ·
  rw [hk] at h; simp at h; omega
theorem shaped_kids {l : List Hg.Row} (h : Hg.shaped l = some true) (x : Nat) : KidsFor (Hg.nodeOf l x) := by
 have hg : Hg.shapedGo l l = true := by
  unfold Hg.shaped at h
  by_cases h1 : Hg.tree l = false
  ·
   rw [if_pos h1] at h; simp at h
  ·
   rw [if_neg h1] at h
   by_cases h2 : Hg.shapedGo l l = false
   ·
    rw [if_pos h2] at h; simp at h
   ·
    simpa using h2
 cases hi : Hg.atI l x with
 | none =>
   rw [Hg.nodeOf_none l x hi]
   exact ⟨fun hk => by simp [Hg.Node.zero] at hk, fun hk => by simp [Hg.Node.zero] at hk⟩
 | some k =>
   rw [Hg.nodeOf_at l x k hi]
   have hr : Hg.rowAt l k ∈ l := List.mem_of_getElem? (atI_row hi)
   have hs := shapedGo_mem l l hg _ hr
   unfold Hg.shapedRow at hs
   dsimp only at hs
   have hf : Hg.fits (Hg.rowAt l k).node.kind (Hg.classes l (Hg.rowAt l k).node.kids) (decide (Hg.kindOf l (Hg.parentOf l (Hg.rowAt l k).id).1 = 3)) = true := by
    cases hc : Hg.fits (Hg.rowAt l k).node.kind (Hg.classes l (Hg.rowAt l k).node.kids) (decide (Hg.kindOf l (Hg.parentOf l (Hg.rowAt l k).id).1 = 3)) with
    | true => rfl
    | false => rw [if_pos (.inr (.inr (.inr hc)))] at hs; cases hs
   exact fits_kids _ _ _ hf
theorem parse_sum (s : List UInt8) : Hg.kidsSum (Hg.parseOf s).1 ≤ 20000 ∧ ∀ r ∈ (Hg.parseOf s).1, r.node.kids.length ≤ 20000 := by
 obtain ⟨h1, h2⟩ := Hg.parse_tr s
 rcases h1 with h1 | h1
 ·
  rw [h1]; exact ⟨by simp [Hg.kidsSum], fun r hr => by simp at hr⟩
 ·
  exact ⟨by rw [h1.sum]; omega, fun r hr => by have := h1.kids r hr; omega⟩
theorem parse_rok (s : List UInt8) (hs : s.length ≤ 1000000) : Rok (Hg.parseOf s).1 := by
 obtain ⟨h1, h2⟩ := parse_sum s
 have h3 := (Hg.parse_tr s).2
 have h4 := Hg.parse_nb s
 refine ⟨by omega, by omega, fun j r hr => ?_, fun j r hr => ?_, fun j r hr => ?_, fun j r hr => ?_⟩
 all_goals have hm := List.mem_of_getElem? hr
 ·
  have := h2 r hm; omega
 ·
  have := (h4 r hm).1; omega
 ·
  have := (h4 r hm).2.2; omega
 ·
  exact (h4 r hm).2.1
theorem right11_any (s : List UInt8) (hs : s.length ≤ 1000000) (B : Nat) (v : Value) (w : World) (hB : B ≤ w.heap.size) (hx : RowsAt w B v (Hg.parseOf s).1) :
 ∃ r, Hg.right11 (Hg.parseOf s).1 = some r ∧ Calls Tryz.prog 23 #[v] w fun e w' => e = .returned (.int .i64 (r : Int)) ∧ Below w.heap.size w w' := by
 obtain ⟨r, hr⟩ := Hg.right11_ends (Hg.parseOf s).1
 have hrok := parse_rok s hs
 obtain ⟨h1, h2⟩ := parse_sum s
 have hkn : ∀ x, (Hg.nodeOf (Hg.parseOf s).1 x).kids.length ≤ 4000000 := by
  intro x
  cases hk : Hg.atI (Hg.parseOf s).1 x with
  | none => rw [Hg.nodeOf_none _ x hk]; simp [Hg.Node.zero]
  | some k => rw [Hg.nodeOf_at _ x k hk]; have := h2 _ (List.mem_of_getElem? (atI_row hk)); omega
 have hz : ∀ x, ∀ k ∈ (Hg.nodeOf (Hg.parseOf s).1 x).kids, k ≠ 0 := by
  intro x k hk
  rcases (Hg.parse_tr s).1 with h | h
  ·
   rw [h] at hk; simp [Hg.nodeOf, Hg.Node.zero] at hk
  ·
   exact h.kid0 x k hk
 refine ⟨r, hr, right11_of B v _ w hB hx hrok (fun W al hW hX hsh hal => ?_) r hr⟩
 refine all11_of B v _ W hW hX hrok.len hrok.sum hkn hz (fun id wb al vi W' hwb hid hX' hWk hvis => ?_) al hal
 exact visit11_any B wb v _ id hrok.len hwb hkn (shaped_kids hsh) hz 201 id (.slice none 0 0) [] al vi W' hid hX' (Sl.nil _ _) (by simp [Value.ownBlock]) (by simp) hWk hvis
end Go.Proofs.YtihmbbkppkgcmaaGreatDoor
