/-
  Part of a proof: contracts of functions that the claim reaches, and plain lemmas.
-/
import Derived.Test.YtihmbbkppkgcmaaGreatDoorKcAU
import Derived.Test.YtihmbbkppkgcmaaGreatDoorKcAH
import Derived.Maps.AppendAt
import Derived.Deep.CutBlock
import Derived.Deep.CutRange
import Derived.Deep.RegionHeld3
set_option linter.all false
namespace Go.Proofs.YtihmbbkppkgcmaaGreatDoor
open Go.RowKit
def wr11 (al : Hg.Alls) (x : Bool) : Hg.Alls := { al with vis := { al.vis with wrong := al.vis.wrong || x } }
theorem wr11_two (al : Hg.Alls) (x y : Bool) : wr11 (wr11 al x) y = wr11 al (x || y) := by unfold wr11; simp [Bool.or_assoc]
theorem wr11_no (al : Hg.Alls) : wr11 al false = al := by unfold wr11; simp
def KidsFor (n : Hg.Node) : Prop := ((n.kind = 6 ∨ n.kind = 7 ∨ n.kind = 8 ∨ n.kind = 9 ∨ n.kind = 16 ∨ n.kind = 10 ∨ n.kind = 17) → 1 ≤ n.kids.length) ∧ (n.kind = 18 → 2 ≤ n.kids.length)
theorem below_of_grown {B wb : Nat} {w w' : World} (hB : B ≤ wb) (h : w.grownBy w' (some wb)) (hw : wb < w.heap.size) : Below B w w' :=
 ⟨h.os, h.tape, h.output, h.size, fun k hk => h.block k (by omega) (fun e => by injection e; omega)⟩
def NbAt (w : World) (nb : Nat) (n : Hg.Node) (ka : Option Addr) (kc : Nat) : Prop := w.heap[nb]? = some (.cells #[.int .u8 (n.kind : Int), strV n.name, .int .i64 n.num, .int .u8 (n.type : Int), .int .u64 (n.ref : Int), .slice ka n.kids.length kc] 31 (0, 0))
theorem NbAt.cell {w : World} {nb : Nat} {n : Hg.Node} {ka : Option Addr} {kc : Nat} (h : NbAt w nb n ka kc) : w.cell? ⟨nb, 0, none⟩ = some (.int .u8 (n.kind : Int)) ∧ w.cell? ⟨nb, 1, none⟩ = some (strV n.name) ∧ w.cell? ⟨nb, 2, none⟩ = some (.int .i64 n.num) ∧ w.cell? ⟨nb, 3, none⟩ = some (.int .u8 (n.type : Int)) ∧
 w.cell? ⟨nb, 4, none⟩ = some (.int .u64 (n.ref : Int)) ∧ w.cell? ⟨nb, 5, none⟩ = some (.slice ka n.kids.length kc) := by
 have hc := fun i => cell_of_row w nb i _ _ (0, 0) h
 exact ⟨hc 0, hc 1, hc 2, hc 3, hc 4, hc 5⟩
theorem NbAt.grown {w w' : World} {nb wb : Nat} {n : Hg.Node} {ka : Option Addr} {kc : Nat} (h : NbAt w nb n ka kc) (hg : w.grownBy w' (some wb)) (hne : wb ≠ nb) : NbAt w' nb n ka kc :=
 (hg.block nb (Array.getElem?_eq_some_iff.1 h).1 (fun e => by injection e with e; exact hne e.symm)).trans h
theorem idInfo11 : (Tryz.prog.info? 28).map (fun i => (i.zero, i.size, i.bytes)) = some (some (.int .u64 0), 1, 8) := by kernel_rfl
theorem wk_ne_u8 {w : World} {wb b o : Nat} {al : Hg.Alls} {n : Int} (hW : WkAt w wb al) (hc : w.cell? ⟨b, o, none⟩ = some (.int .u8 n)) : b ≠ wb := by
 rintro rfl
 have h := cell_of_row w b o _ _ (0, 0) hW
 rw [hc] at h
 match o, h with
 | 0, h => simp at h
 | 1, h => simp at h
 | 2, h => simp at h
 | 3, h => simp at h
 | 4, h => simp at h
 | 5, h => simp at h
 | k + 6, h => simp at h
theorem Sl.u8At {w : World} {B : Nat} {a : Option Addr} {n c : Nat} {l : List Nat} (h : Sl w B (.slice a n c) n (l.map u8V)) {m : Nat} (hm : m < l.length) : ∃ b o, a = some ⟨b, o, none⟩ ∧ w.cell? ⟨b, o + m, none⟩ = some (.int .u8 (l[m] : Int)) ∧ b < B := by
 obtain ⟨a2, c2, he, hc⟩ := h
 injection he with e1 e2 e3
 subst e1; subst e3
 obtain ⟨b, o, rfl, hb, hx⟩ := hc (by simp; omega)
 exact ⟨b, o, rfl, by have := hx m (by simp; omega); simpa [u8V] using this, hb⟩
theorem nodeBad_6 (l : List Hg.Row) (n : Hg.Node) (fn : Nat) (h : n.kind = 6) : Hg.nodeBad l n fn = Hg.partBad l n 0 n.type := by unfold Hg.nodeBad; rw [if_pos h]
theorem nodeBad_7 (l : List Hg.Row) (n : Hg.Node) (fn : Nat) (h : n.kind = 7) : Hg.nodeBad l n fn = Hg.partBad l n 0 (Hg.nodeOf l n.ref).type := by unfold Hg.nodeBad; rw [if_neg (by omega), if_pos h]
theorem nodeBad_8 (l : List Hg.Row) (n : Hg.Node) (fn : Nat) (h : n.kind = 8 ∨ n.kind = 9 ∨ n.kind = 16) : Hg.nodeBad l n fn = Hg.partBad l n 0 2 := by unfold Hg.nodeBad; rw [if_neg (by omega), if_neg (by omega), if_pos h]
theorem nodeBad_10 (l : List Hg.Row) (n : Hg.Node) (fn : Nat) (h : n.kind = 10) : Hg.nodeBad l n fn = Hg.partBad l n 0 (Hg.nodeOf l fn).type := by unfold Hg.nodeBad; rw [if_neg (by omega), if_neg (by omega), if_neg (by omega), if_pos h]
theorem nodeBad_17 (l : List Hg.Row) (n : Hg.Node) (fn : Nat) (h : n.kind = 17) : Hg.nodeBad l n fn = Hg.partBad l n 0 1 := by unfold Hg.nodeBad; rw [if_neg (by omega), if_neg (by omega), if_neg (by omega), if_neg (by omega), if_pos h]
theorem nodeBad_18 (l : List Hg.Row) (n : Hg.Node) (fn want : Nat) (h : n.kind = 18) (hw : (if n.num = 10 ∨ n.num = 11 then Hg.typeOf l (n.kids.getD 0 0) else if n.num < 10 then 1 else 2) = want) : Hg.nodeBad l n fn = (Hg.partBad l n 0 want || Hg.partBad l n 1 want) := by
 unfold Hg.nodeBad; rw [if_neg (by omega), if_neg (by omega), if_neg (by omega), if_neg (by omega), if_neg (by omega), if_pos h]; subst hw; rfl
theorem nodeBad_19 (l : List Hg.Row) (n : Hg.Node) (fn : Nat) (h : n.kind = 19) : Hg.nodeBad l n fn = (if (Hg.paramsOf l n.ref).length ≠ n.kids.length then true else Hg.partsBad l n 0 (Hg.paramsOf l n.ref)) := by
 unfold Hg.nodeBad; rw [if_neg (by omega), if_neg (by omega), if_neg (by omega), if_neg (by omega), if_neg (by omega), if_neg (by omega), if_pos h]
theorem nodeBad_no (l : List Hg.Row) (n : Hg.Node) (fn : Nat) (h : n.kind ≠ 6 ∧ n.kind ≠ 7 ∧ n.kind ≠ 8 ∧ n.kind ≠ 9 ∧ n.kind ≠ 16 ∧ n.kind ≠ 10 ∧ n.kind ≠ 17 ∧ n.kind ≠ 18 ∧ n.kind ≠ 19) : Hg.nodeBad l n fn = false := by
 unfold Hg.nodeBad; rw [if_neg (by omega), if_neg (by omega), if_neg (by omega), if_neg (by omega), if_neg (by omega), if_neg (by omega), if_neg (by omega)]
set_option maxHeartbeats 8000000 in
set_option maxRecDepth 100000 in
theorem visit11_any (B wb : Nat) (v : Value) (l : List Hg.Row) (fn : Nat) (hl : l.length ≤ 1000000000) (hBw : B ≤ wb)
 (hkn : ∀ x, (Hg.nodeOf l x).kids.length ≤ 4000000) (hkf : ∀ x, KidsFor (Hg.nodeOf l x)) (hz : ∀ x, ∀ k ∈ (Hg.nodeOf l x).kids, k ≠ 0) :
 ∀ (fuel id : Nat) (sv : Value) (seen : List Nat) (al : Hg.Alls) (vi : Hg.Vis) (w : World), id ≠ 0 → RowsAt w B v l → Sl w w.heap.size sv seen.length (seen.map idV) → sv.ownBlock ≠ some wb →
   seen.length + fuel * 4000000 ≤ 900000000 → WkAt w wb al → Hg.visitF l fn fuel al.vis id seen = some vi →
 Calls Tryz.prog 83 #[.pointer (some ⟨wb, 0, none⟩), v, .int .u64 (id : Int), sv, .int .u64 (fn : Int)] w fun e w' => e = .returned (.tuple #[]) ∧ WkAt w' wb { al with vis := vi } ∧ w.grownBy w' (some wb)
 | 0, _, _, _, _, _, _, _, _, _, _, _, _, h => by simp [Hg.visitF] at h
 | f + 1, id, sv, seen, al, vi, w, hid0, hx, hs, hsw, hsl, hW, hv => by
   obtain ⟨j0, hj, hj0, hj1, hj2⟩ := info_parts idInfo11
   have IH := Lib.hid (visit11_any B wb v l fn hl hBw hkn hkf hz f)
   have hX := Lib.hid hx
   obtain ⟨a, c, rfl⟩ := hx.form
   have HS := Lib.hid hs
   have HSW := Lib.hid hsw
   obtain ⟨sa, sc, rfl⟩ := hs.form
   have HW := Lib.hid hW
   have hwl := hW.lt
   have hB : B ≤ w.heap.size := by omega
   have hkn1 := hkn id
   have hkf1 := Lib.hid (hkf id)
   have hz1 := Lib.hid (hz id)
   rw [Hg.visitF] at hv
   have HV := Lib.hid hv
   clear hx hs hW hv hsw hkf
   have TN := fun x W h1 h2 => Lib.hid (node11_any B (.slice a l.length c) l x W h1 h2 hl)
   have T1 := TN id w hB hX.out
   generalize Hg.nodeOf l id = nd at HV T1 hkn1 hkf1 hz1
   have q0 : ((id : Int) == 0) = false := by simp; omega
   clear hid0
   go_enter Tryz.func83, Tryz.ntmps83
   go_wp2_with fail
   refine T1.out.mono ?_
   rintro e w1 ⟨ka, kc, rfl, hkid, hb1⟩
   have HK := Lib.hid hkid
   clear hkid
   go_upto_region 1 with fail
   have hb2 : Below w.heap.size w (w1.alloc (nodeBox11 nd ka kc)) := hb1.alloc hb1.size _
   have hnb : NbAt (w1.alloc (nodeBox11 nd ka kc)) w1.heap.size nd ka kc := heap_alloc_new w1 _
   have hnbs : w1.heap.size < (w1.alloc (nodeBox11 nd ka kc)).heap.size := by simp
   have HK3 := Lib.hid ((HK.out.below ((Below.refl _ _).alloc (Nat.le_refl _) (nodeBox11 nd ka kc)) (Nat.le_trans hB hb1.size)))
   have hnw : wb < w1.heap.size := by have := hb1.size; omega
   have hsz1 := hb1.size
   generalize w1.heap.size = nb at hnb hnbs hnw hsz1 ⊢
   generalize World.alloc w1 _ = w2 at hb2 hnb hnbs HK3 ⊢
   clear HK hb1
   have HN := Lib.hid hnb
   obtain ⟨k0, k1, k2, k3, k4, k5⟩ := hnb.cell
   have HW2 := Lib.hid (HW.out.below hb2 (Nat.le_refl _))
   obtain ⟨_, _, _, z3, _, _, _⟩ := HW2.out.cell
   clear hnb
   have TP := fun i want al' W h1 h2 h3 h4 h5 => Lib.hid (part11_any B wb (.slice a l.length c) l nd ka kc i want al' W h1 h2 hl h3 h4 (by omega) h5)
   have hX2 := Lib.hid (hX.out.below hb2 hB)
   have hBw2 : B ≤ w2.heap.size := Nat.le_trans hB hb2.size
   have hbw2 : wb < w2.heap.size := by omega
   have hg0 : w2.grownBy w2 (some wb) := ⟨rfl, rfl, rfl, Nat.le_refl _, fun _ _ _ => rfl⟩
   go_upto_block 0 with fail
   go_cut [11, 12, 13, 14] from 35 to 138 (fun _ _ _ _ wx => WkAt wx wb (wr11 al (Hg.nodeBad l nd fn)) ∧ w2.grownBy wx (some wb))
   case first => as_aux_lemma =>
    clear HV IH
    have hcs : nd.kind = 6 ∨ nd.kind = 7 ∨ nd.kind = 8 ∨ nd.kind = 9 ∨ nd.kind = 16 ∨ nd.kind = 10 ∨ nd.kind = 17 ∨ nd.kind = 18 ∨ nd.kind = 19 ∨ (nd.kind ≠ 6 ∧ nd.kind ≠ 7 ∧ nd.kind ≠ 8 ∧ nd.kind ≠ 9 ∧ nd.kind ≠ 16 ∧ nd.kind ≠ 10 ∧ nd.kind ≠ 17 ∧ nd.kind ≠ 18 ∧ nd.kind ≠ 19) := by omega
    rcases hcs with h | h | h | h | h | h | h | h | h | h
    ·
     have q6 : ((nd.kind : Int) == 6) = true := by simp [h]
     have q7 : ((nd.kind : Int) == 7) = false := by simp; omega
     have q8 : ((nd.kind : Int) == 8) = false := by simp; omega
     have q9 : ((nd.kind : Int) == 9) = false := by simp; omega
     have q16 : ((nd.kind : Int) == 16) = false := by simp; omega
     have q10 : ((nd.kind : Int) == 10) = false := by simp; omega
     have q17 : ((nd.kind : Int) == 17) = false := by simp; omega
     have q18 : ((nd.kind : Int) == 18) = false := by simp; omega
     have q19 : ((nd.kind : Int) == 19) = false := by simp; omega
     have hi : 0 < nd.kids.length := hkf1.out.1 (by omega)
     have HB := Lib.hid (nodeBad_6 l nd fn h)
     clear h
     go_wp2_with (go_at_call 116; refine (TP 0 nd.type al w2 hBw2 hX2.out HK3.out hi HW2.out).out.mono ?_; rintro e w3 ⟨rfl, hW3, hg3⟩)
     go_meet
     case rel => exact ⟨by rw [HB.out]; exact hW3, hg3⟩
    ·
     have q6 : ((nd.kind : Int) == 6) = false := by simp; omega
     have q7 : ((nd.kind : Int) == 7) = true := by simp [h]
     have q8 : ((nd.kind : Int) == 8) = false := by simp; omega
     have q9 : ((nd.kind : Int) == 9) = false := by simp; omega
     have q16 : ((nd.kind : Int) == 16) = false := by simp; omega
     have q10 : ((nd.kind : Int) == 10) = false := by simp; omega
     have q17 : ((nd.kind : Int) == 17) = false := by simp; omega
     have q18 : ((nd.kind : Int) == 18) = false := by simp; omega
     have q19 : ((nd.kind : Int) == 19) = false := by simp; omega
     have hi : 0 < nd.kids.length := hkf1.out.1 (by omega)
     have HB := Lib.hid (nodeBad_7 l nd fn h)
     have T7 := fun W h1 h2 => TN nd.ref W h1 h2
     generalize Hg.nodeOf l nd.ref = nr at HB T7
     clear h
     go_upto_region 7 with fail
     have hdr : Below w2.heap.size w2 w2.drew := (Below.refl w2.heap.size w2).drew
     go_region_held3 (fun w' => w'.cell? ⟨nb, 0, none⟩ = some (.int .u8 (nd.kind : Int)) ∧ w'.cell? ⟨nb, 1, none⟩ = some (strV nd.name) ∧ w'.cell? ⟨nb, 2, none⟩ = some (.int .i64 nd.num) ∧ w'.cell? ⟨nb, 3, none⟩ = some (.int .u8 (nd.type : Int)) ∧ w'.cell? ⟨nb, 4, none⟩ = some (.int .u64 (nd.ref : Int)) ∧ w'.cell? ⟨nb, 5, none⟩ = some (.slice ka nd.kids.length kc)) (first | exact ⟨k0, k1, k2, k3, k4, k5⟩ | exact ⟨k0', k1', k2', k3', k4', k5'⟩ | exact ⟨k0'', k1'', k2'', k3'', k4'', k5''⟩) (first | (go_at_call 80; refine ((T7 w2.drew hBw2 (hX2.out.below hdr hBw2)).out).mono ?_; rintro e w6 ⟨kx, cx, rfl, _, hb6⟩; have hb26 : Below w2.heap.size w2 w6 := hdr.trans hb6; have hg6 := below_grown hb26 (some wb); obtain ⟨k0', k1', k2', k3', k4', k5'⟩ := (HN.out.grown hg6 (by omega)).cell) | (go_at_call 116; refine (TP 0 nr.type al w6 (Nat.le_trans hBw2 hg6.size) (hX2.out.below hb26 hBw2) (HK3.out.below hb26 hBw2) hi (HW2.out.below hb26 (Nat.le_refl _))).out.mono ?_; rintro e w7 ⟨rfl, hW7, hg7⟩; obtain ⟨k0'', k1'', k2'', k3'', k4'', k5''⟩ := (HN.out.grown (hg6.trans hg7) (by omega)).cell))
     go_wp2
     go_meet
     case rel => exact ⟨by rw [HB.out]; exact hW7, hg6.trans hg7⟩
    ·
     have q6 : ((nd.kind : Int) == 6) = false := by simp; omega
     have q7 : ((nd.kind : Int) == 7) = false := by simp; omega
     have q8 : ((nd.kind : Int) == 8) = true := by simp [h]
     have q9 : ((nd.kind : Int) == 9) = false := by simp; omega
     have q16 : ((nd.kind : Int) == 16) = false := by simp; omega
     have q10 : ((nd.kind : Int) == 10) = false := by simp; omega
     have q17 : ((nd.kind : Int) == 17) = false := by simp; omega
     have q18 : ((nd.kind : Int) == 18) = false := by simp; omega
     have q19 : ((nd.kind : Int) == 19) = false := by simp; omega
     have hi : 0 < nd.kids.length := hkf1.out.1 (by omega)
     have HB := Lib.hid (nodeBad_8 l nd fn (by omega))
     clear h
     go_wp2_with (go_at_call 116; refine (TP 0 2 al w2 hBw2 hX2.out HK3.out hi HW2.out).out.mono ?_; rintro e w3 ⟨rfl, hW3, hg3⟩)
     go_meet
     case rel => exact ⟨by rw [HB.out]; exact hW3, hg3⟩
    ·
     have q6 : ((nd.kind : Int) == 6) = false := by simp; omega
     have q7 : ((nd.kind : Int) == 7) = false := by simp; omega
     have q8 : ((nd.kind : Int) == 8) = false := by simp; omega
     have q9 : ((nd.kind : Int) == 9) = true := by simp [h]
     have q16 : ((nd.kind : Int) == 16) = false := by simp; omega
     have q10 : ((nd.kind : Int) == 10) = false := by simp; omega
     have q17 : ((nd.kind : Int) == 17) = false := by simp; omega
     have q18 : ((nd.kind : Int) == 18) = false := by simp; omega
     have q19 : ((nd.kind : Int) == 19) = false := by simp; omega
     have hi : 0 < nd.kids.length := hkf1.out.1 (by omega)
     have HB := Lib.hid (nodeBad_8 l nd fn (by omega))
     clear h
     go_wp2_with (go_at_call 116; refine (TP 0 2 al w2 hBw2 hX2.out HK3.out hi HW2.out).out.mono ?_; rintro e w3 ⟨rfl, hW3, hg3⟩)
     go_meet
     case rel => exact ⟨by rw [HB.out]; exact hW3, hg3⟩
    ·
     have q6 : ((nd.kind : Int) == 6) = false := by simp; omega
     have q7 : ((nd.kind : Int) == 7) = false := by simp; omega
     have q8 : ((nd.kind : Int) == 8) = false := by simp; omega
     have q9 : ((nd.kind : Int) == 9) = false := by simp; omega
     have q16 : ((nd.kind : Int) == 16) = true := by simp [h]
     have q10 : ((nd.kind : Int) == 10) = false := by simp; omega
     have q17 : ((nd.kind : Int) == 17) = false := by simp; omega
     have q18 : ((nd.kind : Int) == 18) = false := by simp; omega
     have q19 : ((nd.kind : Int) == 19) = false := by simp; omega
     have hi : 0 < nd.kids.length := hkf1.out.1 (by omega)
     have HB := Lib.hid (nodeBad_8 l nd fn (by omega))
     clear h
     go_wp2_with (go_at_call 116; refine (TP 0 2 al w2 hBw2 hX2.out HK3.out hi HW2.out).out.mono ?_; rintro e w3 ⟨rfl, hW3, hg3⟩)
     go_meet
     case rel => exact ⟨by rw [HB.out]; exact hW3, hg3⟩
    ·
     have q6 : ((nd.kind : Int) == 6) = false := by simp; omega
     have q7 : ((nd.kind : Int) == 7) = false := by simp; omega
     have q8 : ((nd.kind : Int) == 8) = false := by simp; omega
     have q9 : ((nd.kind : Int) == 9) = false := by simp; omega
     have q16 : ((nd.kind : Int) == 16) = false := by simp; omega
     have q10 : ((nd.kind : Int) == 10) = true := by simp [h]
     have q17 : ((nd.kind : Int) == 17) = false := by simp; omega
     have q18 : ((nd.kind : Int) == 18) = false := by simp; omega
     have q19 : ((nd.kind : Int) == 19) = false := by simp; omega
     have hi : 0 < nd.kids.length := hkf1.out.1 (by omega)
     have HB := Lib.hid (nodeBad_10 l nd fn h)
     have T7 := fun W h1 h2 => TN fn W h1 h2
     generalize Hg.nodeOf l fn = nr at HB T7
     clear h
     go_upto_region 13 with fail
     have hdr : Below w2.heap.size w2 w2.drew := (Below.refl w2.heap.size w2).drew
     go_region_held3 (fun w' => w'.cell? ⟨nb, 0, none⟩ = some (.int .u8 (nd.kind : Int)) ∧ w'.cell? ⟨nb, 1, none⟩ = some (strV nd.name) ∧ w'.cell? ⟨nb, 2, none⟩ = some (.int .i64 nd.num) ∧ w'.cell? ⟨nb, 3, none⟩ = some (.int .u8 (nd.type : Int)) ∧ w'.cell? ⟨nb, 4, none⟩ = some (.int .u64 (nd.ref : Int)) ∧ w'.cell? ⟨nb, 5, none⟩ = some (.slice ka nd.kids.length kc)) (first | exact ⟨k0, k1, k2, k3, k4, k5⟩ | exact ⟨k0', k1', k2', k3', k4', k5'⟩ | exact ⟨k0'', k1'', k2'', k3'', k4'', k5''⟩) (first | (go_at_call 80; refine ((T7 w2.drew hBw2 (hX2.out.below hdr hBw2)).out).mono ?_; rintro e w6 ⟨kx, cx, rfl, _, hb6⟩; have hb26 : Below w2.heap.size w2 w6 := hdr.trans hb6; have hg6 := below_grown hb26 (some wb); obtain ⟨k0', k1', k2', k3', k4', k5'⟩ := (HN.out.grown hg6 (by omega)).cell) | (go_at_call 116; refine (TP 0 nr.type al w6 (Nat.le_trans hBw2 hg6.size) (hX2.out.below hb26 hBw2) (HK3.out.below hb26 hBw2) hi (HW2.out.below hb26 (Nat.le_refl _))).out.mono ?_; rintro e w7 ⟨rfl, hW7, hg7⟩; obtain ⟨k0'', k1'', k2'', k3'', k4'', k5''⟩ := (HN.out.grown (hg6.trans hg7) (by omega)).cell))
     go_wp2
     go_meet
     case rel => exact ⟨by rw [HB.out]; exact hW7, hg6.trans hg7⟩
    ·
     have q6 : ((nd.kind : Int) == 6) = false := by simp; omega
     have q7 : ((nd.kind : Int) == 7) = false := by simp; omega
     have q8 : ((nd.kind : Int) == 8) = false := by simp; omega
     have q9 : ((nd.kind : Int) == 9) = false := by simp; omega
     have q16 : ((nd.kind : Int) == 16) = false := by simp; omega
     have q10 : ((nd.kind : Int) == 10) = false := by simp; omega
     have q17 : ((nd.kind : Int) == 17) = true := by simp [h]
     have q18 : ((nd.kind : Int) == 18) = false := by simp; omega
     have q19 : ((nd.kind : Int) == 19) = false := by simp; omega
     have hi : 0 < nd.kids.length := hkf1.out.1 (by omega)
     have HB := Lib.hid (nodeBad_17 l nd fn h)
     clear h
     go_wp2_with (go_at_call 116; refine (TP 0 1 al w2 hBw2 hX2.out HK3.out hi HW2.out).out.mono ?_; rintro e w3 ⟨rfl, hW3, hg3⟩)
     go_meet
     case rel => exact ⟨by rw [HB.out]; exact hW3, hg3⟩
    ·
     have q6 : ((nd.kind : Int) == 6) = false := by simp; omega
     have q7 : ((nd.kind : Int) == 7) = false := by simp; omega
     have q8 : ((nd.kind : Int) == 8) = false := by simp; omega
     have q9 : ((nd.kind : Int) == 9) = false := by simp; omega
     have q16 : ((nd.kind : Int) == 16) = false := by simp; omega
     have q10 : ((nd.kind : Int) == 10) = false := by simp; omega
     have q17 : ((nd.kind : Int) == 17) = false := by simp; omega
     have q18 : ((nd.kind : Int) == 18) = true := by simp [h]
     have q19 : ((nd.kind : Int) == 19) = false := by simp; omega
     have hi1 : 1 < nd.kids.length := hkf1.out.2 h
     have hi0 : 0 < nd.kids.length := by omega
     rcases (show nd.num = 10 ∨ nd.num = 11 ∨ nd.num < 10 ∨ 11 < nd.num by omega) with hn | hn | hn | hn
     ·
      obtain ⟨b3, o3, rfl, _, kc3⟩ := HK3.out.idAt hi0
      rw [Nat.add_zero] at kc3
      have HB := Lib.hid (nodeBad_18 l nd fn (Hg.typeOf l nd.kids[0]) h (by rw [if_pos (by omega)]; simp [hi0]))
      have TT := Lib.hid (type11_any B _ l nd.kids[0] w2 hBw2 hX2.out hl)
      generalize nd.kids[0] = x at kc3 TT HB
      generalize Hg.typeOf l x = want at TT HB
      have n10 : (nd.num == 10) = true := by simp; omega
      have n11 : (nd.num == 11) = false := by simp; omega
      have n9 : ¬ nd.num < 10 := by omega
      clear h hn
      go_wp2_with fail
      refine TT.out.mono ?_
      rintro e w3 ⟨rfl, hb3⟩
      have hg3 := below_grown hb3 (some wb)
      obtain ⟨k0', k1', k2', k3', k4', k5'⟩ := (HN.out.grown hg3 (by omega)).cell
      have hw3' := Lib.hid (HW2.out.below hb3 (Nat.le_refl _))
      go_wp2_with fail
      refine (TP 0 want al w3 (Nat.le_trans hBw2 hg3.size) (hX2.out.below (below_of_grown hBw hg3 hbw2) (Nat.le_refl _)) (HK3.out.below (below_of_grown hBw hg3 hbw2) (Nat.le_refl _)) hi0 hw3'.out).out.mono ?_
      rintro e w4 ⟨rfl, hW4, hg4⟩
      have hg24 := World.grownBy.trans hg3 hg4
      have HW4 := Lib.hid hW4
      obtain ⟨k0'', k1'', k2'', k3'', k4'', k5''⟩ := (HN.out.grown hg24 (by omega)).cell
      go_wp2_with fail
      refine (TP 1 want _ w4 (Nat.le_trans hBw2 hg24.size) (hX2.out.below (below_of_grown hBw hg24 hbw2) (Nat.le_refl _)) (HK3.out.below (below_of_grown hBw hg24 hbw2) (Nat.le_refl _)) hi1 HW4.out).out.mono ?_
      rintro e w5 ⟨rfl, hW5, hg5⟩
      go_wp2
      go_meet
      case rel => exact ⟨by rw [HB.out, ← wr11_two]; exact hW5, hg24.trans hg5⟩
     ·
      obtain ⟨b3, o3, rfl, _, kc3⟩ := HK3.out.idAt hi0
      rw [Nat.add_zero] at kc3
      have HB := Lib.hid (nodeBad_18 l nd fn (Hg.typeOf l nd.kids[0]) h (by rw [if_pos (by omega)]; simp [hi0]))
      have TT := Lib.hid (type11_any B _ l nd.kids[0] w2 hBw2 hX2.out hl)
      generalize nd.kids[0] = x at kc3 TT HB
      generalize Hg.typeOf l x = want at TT HB
      have n10 : (nd.num == 10) = false := by simp; omega
      have n11 : (nd.num == 11) = true := by simp; omega
      have n9 : ¬ nd.num < 10 := by omega
      clear h hn
      go_wp2_with fail
      refine TT.out.mono ?_
      rintro e w3 ⟨rfl, hb3⟩
      have hg3 := below_grown hb3 (some wb)
      obtain ⟨k0', k1', k2', k3', k4', k5'⟩ := (HN.out.grown hg3 (by omega)).cell
      have hw3' := Lib.hid (HW2.out.below hb3 (Nat.le_refl _))
      go_wp2_with fail
      refine (TP 0 want al w3 (Nat.le_trans hBw2 hg3.size) (hX2.out.below (below_of_grown hBw hg3 hbw2) (Nat.le_refl _)) (HK3.out.below (below_of_grown hBw hg3 hbw2) (Nat.le_refl _)) hi0 hw3'.out).out.mono ?_
      rintro e w4 ⟨rfl, hW4, hg4⟩
      have hg24 := World.grownBy.trans hg3 hg4
      have HW4 := Lib.hid hW4
      obtain ⟨k0'', k1'', k2'', k3'', k4'', k5''⟩ := (HN.out.grown hg24 (by omega)).cell
      go_wp2_with fail
      refine (TP 1 want _ w4 (Nat.le_trans hBw2 hg24.size) (hX2.out.below (below_of_grown hBw hg24 hbw2) (Nat.le_refl _)) (HK3.out.below (below_of_grown hBw hg24 hbw2) (Nat.le_refl _)) hi1 HW4.out).out.mono ?_
      rintro e w5 ⟨rfl, hW5, hg5⟩
      go_wp2
      go_meet
      case rel => exact ⟨by rw [HB.out, ← wr11_two]; exact hW5, hg24.trans hg5⟩
     ·
      have HB := Lib.hid (nodeBad_18 l nd fn 1 h (by rw [if_neg (by omega), if_pos (by omega)]))
      have n10 : (nd.num == 10) = false := by simp; omega
      have n11 : (nd.num == 11) = false := by simp; omega
      have n9 : nd.num < 10 := by omega
      clear h hn
      obtain ⟨k0', k1', k2', k3', k4', k5'⟩ := (HN.out.grown hg0 (by omega)).cell
      have hw2' := Lib.hid HW2.out
      go_wp2_with fail
      refine (TP 0  1 al w2 (Nat.le_trans hBw2 hg0.size) (hX2.out.below (below_of_grown hBw hg0 hbw2) (Nat.le_refl _)) (HK3.out.below (below_of_grown hBw hg0 hbw2) (Nat.le_refl _)) hi0 hw2'.out).out.mono ?_
      rintro e w4 ⟨rfl, hW4, hg4⟩
      have hg24 := World.grownBy.trans hg0 hg4
      have HW4 := Lib.hid hW4
      obtain ⟨k0'', k1'', k2'', k3'', k4'', k5''⟩ := (HN.out.grown hg24 (by omega)).cell
      go_wp2_with fail
      refine (TP 1  1 _ w4 (Nat.le_trans hBw2 hg24.size) (hX2.out.below (below_of_grown hBw hg24 hbw2) (Nat.le_refl _)) (HK3.out.below (below_of_grown hBw hg24 hbw2) (Nat.le_refl _)) hi1 HW4.out).out.mono ?_
      rintro e w5 ⟨rfl, hW5, hg5⟩
      go_wp2
      go_meet
      case rel => exact ⟨by rw [HB.out, ← wr11_two]; exact hW5, hg24.trans hg5⟩
     ·
      have HB := Lib.hid (nodeBad_18 l nd fn 2 h (by rw [if_neg (by omega), if_neg (by omega)]))
      have n10 : (nd.num == 10) = false := by simp; omega
      have n11 : (nd.num == 11) = false := by simp; omega
      have n9 : ¬ nd.num < 10 := by omega
      clear h hn
      obtain ⟨k0', k1', k2', k3', k4', k5'⟩ := (HN.out.grown hg0 (by omega)).cell
      have hw2' := Lib.hid HW2.out
      go_wp2_with fail
      refine (TP 0  2 al w2 (Nat.le_trans hBw2 hg0.size) (hX2.out.below (below_of_grown hBw hg0 hbw2) (Nat.le_refl _)) (HK3.out.below (below_of_grown hBw hg0 hbw2) (Nat.le_refl _)) hi0 hw2'.out).out.mono ?_
      rintro e w4 ⟨rfl, hW4, hg4⟩
      have hg24 := World.grownBy.trans hg0 hg4
      have HW4 := Lib.hid hW4
      obtain ⟨k0'', k1'', k2'', k3'', k4'', k5''⟩ := (HN.out.grown hg24 (by omega)).cell
      go_wp2_with fail
      refine (TP 1  2 _ w4 (Nat.le_trans hBw2 hg24.size) (hX2.out.below (below_of_grown hBw hg24 hbw2) (Nat.le_refl _)) (HK3.out.below (below_of_grown hBw hg24 hbw2) (Nat.le_refl _)) hi1 HW4.out).out.mono ?_
      rintro e w5 ⟨rfl, hW5, hg5⟩
      go_wp2
      go_meet
      case rel => exact ⟨by rw [HB.out, ← wr11_two]; exact hW5, hg24.trans hg5⟩
    ·
     have q6 : ((nd.kind : Int) == 6) = false := by simp; omega
     have q7 : ((nd.kind : Int) == 7) = false := by simp; omega
     have q8 : ((nd.kind : Int) == 8) = false := by simp; omega
     have q9 : ((nd.kind : Int) == 9) = false := by simp; omega
     have q16 : ((nd.kind : Int) == 16) = false := by simp; omega
     have q10 : ((nd.kind : Int) == 10) = false := by simp; omega
     have q17 : ((nd.kind : Int) == 17) = false := by simp; omega
     have q18 : ((nd.kind : Int) == 18) = false := by simp; omega
     have q19 : ((nd.kind : Int) == 19) = true := by simp [h]
     have HB := Lib.hid (nodeBad_19 l nd fn h)
     have hpl : (Hg.paramsOf l nd.ref).length ≤ 4000000 := by
      unfold Hg.paramsOf
      rw [List.length_map]
      exact Nat.le_trans (List.length_filter_le _ _) (hkn nd.ref)
     have T9 := Lib.hid (params11_any B _ l nd.ref w2 hBw2 hX2.out hl (by have := hkn nd.ref; omega))
     generalize Hg.paramsOf l nd.ref = ps at HB T9 hpl
     clear h
     go_wp2_with fail
     refine T9.out.mono ?_
     rintro e w3 ⟨⟨pa, pc, rfl, hps⟩, hb3⟩
     have HPS := Lib.hid hps
     clear hps
     have hg3 := below_grown hb3 (some wb)
     have HW3 := Lib.hid (HW2.out.below hb3 (Nat.le_refl _))
     obtain ⟨k0', k1', k2', k3', k4', k5'⟩ := (HN.out.grown hg3 (by omega)).cell
     by_cases hlen : ps.length = nd.kids.length
     ·
      have ql : ((ps.length : Int) != (nd.kids.length : Int)) = false := by simp [hlen]
      have HL := Lib.hid hlen
      clear hlen
      go_wp2_with fail
      go_loopw [126] (fun q wr => ∃ (m : Nat) (x : Bool), q = .int .i64 m ∧ m ≤ ps.length ∧ (x || Hg.partsBad l nd m (ps.drop m)) = Hg.partsBad l nd 0 ps ∧ WkAt wr wb (wr11 al x) ∧ w3.grownBy wr (some wb)) (fun q _ => ps.length - (intOf q).toNat)
      case atStart => exact ⟨0, false, rfl, Nat.zero_le _, by simp, by rw [wr11_no]; exact HW3.out, ⟨rfl, rfl, rfl, Nat.le_refl _, fun _ _ _ => rfl⟩⟩
      case round =>
       obtain ⟨m, x, rfl, hm, hpx, hWr, hgr⟩ := hrel
       have HPX := Lib.hid hpx
       have HWr := Lib.hid hWr
       clear hpx hWr
       have hg2 := hg3.trans hgr
       by_cases hlt : m < ps.length
       ·
        obtain ⟨b3, o3, rfl, c3, hb3w⟩ := HPS.out.u8At hlt
        have hne := wk_ne_u8 HW3.out c3
        have c3' := hgr.cell c3 (by intro e; injection e with e; exact hne e)
        have hstep := HPX.out
        rw [List.drop_eq_getElem_cons hlt, Hg.partsBad, ← Bool.or_assoc] at hstep
        have HST := Lib.hid hstep
        clear hstep c3
        have hmk : m < nd.kids.length := by have := HL.out; omega
        generalize ps[m] = y at c3' HST
        obtain ⟨k0', k1', k2', k3', k4', k5'⟩ := (HN.out.grown hg2 (by omega)).cell
        go_wp2_with fail
        refine (TP m y _ wr (Nat.le_trans hBw2 hg2.size) (hX2.out.below (below_of_grown hBw hg2 hbw2) (Nat.le_refl _)) (HK3.out.below (below_of_grown hBw hg2 hbw2) (Nat.le_refl _)) hmk HWr.out).out.mono ?_
        rintro e w7 ⟨rfl, hW7, hg7⟩
        go_wp2
        go_roundw
        case rel => exact ⟨m + 1, x || Hg.partBad l nd m y, by go_num, by omega, HST.out, by rw [← wr11_two]; exact hW7, hgr.trans hg7⟩
        case measure => simp [intOf]; omega
       ·
        obtain rfl : m = ps.length := by omega
        have he : x = Hg.nodeBad l nd fn := by rw [HB.out, if_neg (by rw [HL.out]; simp), ← HPX.out, List.drop_length, Hg.partsBad, Bool.or_false]
        have HE := Lib.hid he
        clear he
        go_wp2
        go_meet
        case rel => exact ⟨by rw [← HE.out]; exact HWr.out, hg2⟩
     ·
      have ql : ((ps.length : Int) != (nd.kids.length : Int)) = true := by simp; omega
      have hbt : Hg.nodeBad l nd fn = true := by rw [HB.out, if_pos hlen]
      have HBT := Lib.hid hbt
      clear hbt hlen
      obtain ⟨_, _, c2, _, _, _, hf⟩ := HW3.out.cell
      have f2 := hf 2
      clear hf
      go_wp2
      go_meet
      case rel => exact ⟨by rw [HBT.out]; have h := HW3.out.wrong; unfold wr11; rw [Bool.or_true]; exact h, wk_grown hg3 2 _⟩
    ·
     have q6 : ((nd.kind : Int) == 6) = false := by simp; omega
     have q7 : ((nd.kind : Int) == 7) = false := by simp; omega
     have q8 : ((nd.kind : Int) == 8) = false := by simp; omega
     have q9 : ((nd.kind : Int) == 9) = false := by simp; omega
     have q16 : ((nd.kind : Int) == 16) = false := by simp; omega
     have q10 : ((nd.kind : Int) == 10) = false := by simp; omega
     have q17 : ((nd.kind : Int) == 17) = false := by simp; omega
     have q18 : ((nd.kind : Int) == 18) = false := by simp; omega
     have q19 : ((nd.kind : Int) == 19) = false := by simp; omega
     have HB := Lib.hid (nodeBad_no l nd fn h)
     clear h
     go_wp2
     go_meet
     case rel => exact ⟨by rw [HB.out, wr11_no]; exact HW2.out, hg0⟩
   case rest =>
    obtain ⟨w3, rfl⟩ : ∃ w3 : World, w3 = wc := ⟨_, rfl⟩
    obtain ⟨hW3, hg3⟩ := hcut
    have HW3 := Lib.hid hW3
    clear hW3 k0 k1 k2 k3 k4 k5 z3
    have hgw : w.grownBy w3 (some wb) := (below_grown hb2 _).trans hg3
    have HS3 := Lib.hid (Sl.grown HS.out (Nat.le_refl _) hgw (fun g hg => by injection hg with hg; subst hg; exact HSW.out))
    obtain ⟨k0, k1, k2, k3, k4, k5⟩ := (HN.out.grown hg3 (by omega)).cell
    go_upto_region 33 with fail
    obtain ⟨hv, hhv⟩ : ∃ hv, ((decide (nd.kind = 7) || decide (nd.kind = 15)) && !Hg.isIn seen nd.ref) = hv := ⟨_, rfl⟩
    rw [hhv] at HV
    have HHV := Lib.hid hhv
    clear hhv
    go_cut [152] from 138 to 153 (fun v wx => v = .bool hv ∧ w3 = wx)
    case first => as_aux_lemma =>
     have TI := Lib.hid (in7_any w.heap.size _ seen nd.ref w3 HS3.out (by omega))
     rcases (show nd.kind = 7 ∨ nd.kind = 15 ∨ (nd.kind ≠ 7 ∧ nd.kind ≠ 15) by omega) with h | h | h
     ·
      have q7 : ((nd.kind : Int) == 7) = true := by simp [h]
      have HQ := Lib.hid (show (!Hg.isIn seen nd.ref) = hv by rw [← HHV.out, h]; rfl)
      clear h
      go_wp2_with fail
      refine TI.out.mono ?_
      rintro e w4 ⟨rfl, rfl⟩
      go_wp2
      go_meet
      case rel => exact ⟨by rw [← HQ.out], rfl⟩
     ·
      have q7 : ((nd.kind : Int) == 7) = false := by simp [h]
      have q15 : ((nd.kind : Int) == 15) = true := by simp [h]
      have HQ := Lib.hid (show (!Hg.isIn seen nd.ref) = hv by rw [← HHV.out, h]; rfl)
      clear h
      go_wp2_with fail
      refine TI.out.mono ?_
      rintro e w4 ⟨rfl, rfl⟩
      go_wp2
      go_meet
      case rel => exact ⟨by rw [← HQ.out], rfl⟩
     ·
      have q7 : ((nd.kind : Int) == 7) = false := by simp; omega
      have q15 : ((nd.kind : Int) == 15) = false := by simp; omega
      have HQ := Lib.hid (show false = hv by rw [← HHV.out]; simp [h.1, h.2])
      clear h
      go_wp2
      go_meet
      case rel => exact ⟨by rw [← HQ.out], rfl⟩
    case rest =>
     obtain ⟨rfl, rfl⟩ := hcut
     clear HHV
     cases hv
     ·
      as_aux_lemma =>
       go_upto_region 35 with fail
       obtain ⟨w4, rfl⟩ : ∃ w4 : World, w4 = w3 := ⟨_, rfl⟩
       have hW4 : WkAt w4 wb { al with vis := ⟨al.vis.hidden || false, al.vis.wrong || Hg.nodeBad l nd fn⟩ } := by rw [Bool.or_false]; exact HW3.out
       have hg4 := hg3
       generalize Hg.nodeBad l nd fn = nbad at hW4 HV HW3
       generalize (⟨al.vis.hidden || false, al.vis.wrong || nbad⟩ : Hg.Vis) = vi0 at hW4 HV
       clear k0 k1 k2 k3 k4 k5
       obtain ⟨_, _, _, _, _, k5⟩ := (HN.out.grown hg4 (by omega)).cell
       have HW4 := Lib.hid hW4
       have hgw4 : w.grownBy w4 (some wb) := (below_grown hb2 _).trans hg4
       have HS4 := Lib.hid (Sl.grown HS.out (Nat.le_refl _) hgw4 (fun g hg => by injection hg with hg; subst hg; exact HSW.out))
       have hsz4 := hgw4.size
       clear hW4
       go_wp2_with fail
       go_loopw [3, 159] (fun sv q wr => ∃ (m : Nat) (seen' : List Nat) (ra : Option Addr) (rc : Nat) (vi' : Hg.Vis), q = .int .i64 m ∧ m ≤ nd.kids.length ∧ sv = .slice ra seen'.length rc ∧ Sl wr wr.heap.size (.slice ra seen'.length rc) seen'.length (seen'.map idV) ∧ (Value.slice ra seen'.length rc).ownBlock ≠ some wb ∧ seen'.length ≤ seen.length + m ∧ WkAt wr wb { al with vis := vi' } ∧ w4.grownBy wr (some wb) ∧ Hg.visitGo l (Hg.visitF l fn f) (nd.kids.drop m) seen' vi' = some vi) (fun _ q _ => nd.kids.length - (intOf q).toNat)
       case atStart => exact ⟨0, seen, sa, sc, vi0, rfl, Nat.zero_le _, rfl, HS4.out.more hsz4, HSW.out, by omega, HW4.out, ⟨rfl, rfl, rfl, Nat.le_refl _, fun _ _ _ => rfl⟩, HV.out⟩
       case round =>
        obtain ⟨m, sn, ra, rc, vi', rfl, hm, rfl, hsl', hso, hsn, hWr, hgr, hgo⟩ := hrel
        have HSL := Lib.hid hsl'
        have HSO := Lib.hid hso
        have HWr := Lib.hid hWr
        have HGO := Lib.hid hgo
        clear hsl' hso hWr hgo HV k5
        have hg2r := hg4.trans hgr
        have hbr : Below B w2 wr := below_of_grown hBw hg2r hbw2
        by_cases hlt : m < nd.kids.length
        ·
         obtain ⟨b3, o3, rfl, _, kc3⟩ := (HK3.out.below hbr (Nat.le_refl _)).idAt hlt
         have hk0 : nd.kids[m] ≠ 0 := hz1.out _ (List.getElem_mem hlt)
         have hstep := HGO.out
         rw [List.drop_eq_getElem_cons hlt, Hg.visitGo] at hstep
         generalize nd.kids[m] = x at kc3 hstep hk0
         cases hvx : Hg.visitF l fn f vi' x sn with
         | none => rw [hvx] at hstep; cases hstep
         | some v2 =>
           rw [hvx] at hstep
           dsimp only at hstep
           unfold Hg.kindOf at hstep
           have TV := Lib.hid (IH.out x _ sn { al with vis := vi' } v2 wr hk0 (hX2.out.below hbr (Nat.le_refl _)) HSL.out HSO.out (by omega) HWr.out hvx)
           have HST := Lib.hid hstep
           clear hstep hvx hk0 HGO
           go_wp2_with fail
           refine TV.out.mono ?_
           rintro e w5 ⟨rfl, hW5, hg5⟩
           have HW5 := Lib.hid hW5
           clear hW5
           have hg25 := hg2r.trans hg5
           have hb5 : Below B w2 w5 := below_of_grown hBw hg25 hbw2
           have hB5 : B ≤ w5.heap.size := Nat.le_trans hBw2 hg25.size
           have HX5 := Lib.hid (hX2.out.below hb5 (Nat.le_refl _))
           have T5 := TN x w5 hB5 HX5.out
           have T6 := fun W h1 h2 => TN x W h1 h2
           generalize Hg.nodeOf l x = nx at T5 T6 HST
           have hwr : wb < wr.heap.size := HWr.out.lt
           have HSL5 := Lib.hid (Sl.grown HSL.out (Nat.le_refl _) hg5 (fun g hg => by injection hg with hg; subst hg; exact HSO.out))
           rcases (show nx.kind = 6 ∨ nx.kind = 4 ∨ (nx.kind ≠ 6 ∧ nx.kind ≠ 4) by omega) with h | h | h
           ·
            have q6 : ((nx.kind : Int) == 6) = true := by simp [h]
            have hst := HST.out
            rw [if_pos (by omega)] at hst
            have HST := Lib.hid hst
            clear h hst
            go_wp2_with fail
            refine T5.out.mono ?_
            rintro e w6 ⟨kx6, cx6, rfl, _, hb6⟩
            have hb5W := Lib.hid hb6
            have hszW := hb6.size
            have HSLW := Lib.hid (HSL5.out.below hb6 hg5.size)
            go_wp2_with (at_builtin; refine wpList_append_sl _ rfl (.tmp 181) (.tmp 182) _ rfl w6.heap.size 28 j0 _ 8 Tryz.underlying29 hj hj0 hj1 hj2 rfl _ _ _ rfl (ownsRow_empty _ _ _ ?_) wr.heap.size _ _ _ rfl (HSLW.out.alloc ?_ _) ?_ (ids_one _) ?_ ?_ ?_ ?_)
            ·
             omega
            ·
             have := hg5.size; omega
            ·
             simp
            ·
             unfold maxLen; omega
            ·
             omega
            ·
             simp
            intro v3 W3 own3 g3 at3
            try simp only [Nat.zero_add, List.nil_append] at own3
            have hbW3 : Below w6.heap.size w6 W3 := ((Below.refl w6.heap.size w6).alloc (Nat.le_refl _) (.cells #[] 28)).trans ⟨g3.os, g3.tape, g3.output, g3.size, fun q hq => g3.block q (by simp; omega) (fun e => by
             have e' : some q = some w6.heap.size := e
             injection e' with e'
             omega)⟩
            have hsz3 := hbW3.size
            have OW3 := Lib.hid own3
            clear own3 g3 at3
            go_wp2_with (at_builtin; refine wpList_append_own_at _ rfl (.tmp 183) (.tmp 185) _ rfl w6.heap.size 28 j0 _ 1 8 Tryz.underlying29 hj hj0 hj1 hj2 rfl (by decide) _ _ _ rfl (OW3.out.alloc _) ⟨_, 0, none⟩ 1 1 [idV x] rfl rfl (cells_new _ _ _) ?_ ?_ ?_ ?_ ?_)
            ·
             intro u hu; simp only [List.mem_singleton] at hu; subst hu; rfl
            ·
             unfold maxLen; omega
            ·
             omega
            ·
             simp; omega
            intro v4 W4 own4 g4 _ at4
            have hbW4 : Below w6.heap.size w6 W4 := (hbW3.alloc hsz3 (.cells #[idV x] 28)).trans ⟨g4.os, g4.tape, g4.output, g4.size, fun q hq => g4.block q (by simp; omega) (fun e => by have := (OW3.out.lt q e.symm).1; omega)⟩
            have own5 : W4.ownsRow w6.heap.size 28 1 v4 (sn ++ [x]).length ((sn ++ [x]).map idV) := by simpa using own4
            have hso4 : v4.ownBlock ≠ some wb := fun e => by have := (own5.lt wb e).1; have := hg5.size; omega
            have hs4 := Sl.of_own own5
            obtain ⟨a4, c4, rfl⟩ := hs4.form
            have HSO4 := Lib.hid hso4
            have HS5 := Lib.hid hs4
            clear own4 own5 g4 at4 hso4 hs4
            have hb5W4 : Below w5.heap.size w5 W4 := hb5W.out.trans (hbW4.mono hb5W.out.size)
            go_wp2
            go_roundw
            case rel => exact ⟨m + 1, sn ++ [x], a4, c4, v2, by go_num, by omega, rfl, HS5.out, HSO4.out, by simp; omega, HW5.out.below hb5W4 (Nat.le_refl _), (hgr.trans hg5).trans (below_grown hb5W4 _), HST.out⟩
            case measure => simp [intOf]; omega
           ·
            have q6 : ((nx.kind : Int) == 6) = false := by simp [h]
            have q4 : ((nx.kind : Int) == 4) = true := by simp [h]
            have hst := HST.out
            rw [if_pos (by omega)] at hst
            have HST := Lib.hid hst
            clear h hst
            go_wp2_with fail
            refine T5.out.mono ?_
            rintro e w6 ⟨kx6, cx6, rfl, _, hb6⟩
            go_wp2_with fail
            refine (T6 w6 (Nat.le_trans hB5 hb6.size) (HX5.out.below hb6 hB5)).out.mono ?_
            rintro e w7 ⟨kx7, cx7, rfl, _, hb7⟩
            have hb57 := hb6.trans (hb7.mono hb6.size)
            have hb5W := Lib.hid hb57
            have hszW := hb57.size
            have HSLW := Lib.hid (HSL5.out.below hb57 hg5.size)
            go_wp2_with (at_builtin; refine wpList_append_sl _ rfl (.tmp 181) (.tmp 182) _ rfl w7.heap.size 28 j0 _ 8 Tryz.underlying29 hj hj0 hj1 hj2 rfl _ _ _ rfl (ownsRow_empty _ _ _ ?_) wr.heap.size _ _ _ rfl (HSLW.out.alloc ?_ _) ?_ (ids_one _) ?_ ?_ ?_ ?_)
            ·
             omega
            ·
             have := hg5.size; omega
            ·
             simp
            ·
             unfold maxLen; omega
            ·
             omega
            ·
             simp
            intro v3 W3 own3 g3 at3
            try simp only [Nat.zero_add, List.nil_append] at own3
            have hbW3 : Below w7.heap.size w7 W3 := ((Below.refl w7.heap.size w7).alloc (Nat.le_refl _) (.cells #[] 28)).trans ⟨g3.os, g3.tape, g3.output, g3.size, fun q hq => g3.block q (by simp; omega) (fun e => by
             have e' : some q = some w7.heap.size := e
             injection e' with e'
             omega)⟩
            have hsz3 := hbW3.size
            have OW3 := Lib.hid own3
            clear own3 g3 at3
            go_wp2_with (at_builtin; refine wpList_append_own_at _ rfl (.tmp 183) (.tmp 185) _ rfl w7.heap.size 28 j0 _ 1 8 Tryz.underlying29 hj hj0 hj1 hj2 rfl (by decide) _ _ _ rfl (OW3.out.alloc _) ⟨_, 0, none⟩ 1 1 [idV x] rfl rfl (cells_new _ _ _) ?_ ?_ ?_ ?_ ?_)
            ·
             intro u hu; simp only [List.mem_singleton] at hu; subst hu; rfl
            ·
             unfold maxLen; omega
            ·
             omega
            ·
             simp; omega
            intro v4 W4 own4 g4 _ at4
            have hbW4 : Below w7.heap.size w7 W4 := (hbW3.alloc hsz3 (.cells #[idV x] 28)).trans ⟨g4.os, g4.tape, g4.output, g4.size, fun q hq => g4.block q (by simp; omega) (fun e => by have := (OW3.out.lt q e.symm).1; omega)⟩
            have own5 : W4.ownsRow w7.heap.size 28 1 v4 (sn ++ [x]).length ((sn ++ [x]).map idV) := by simpa using own4
            have hso4 : v4.ownBlock ≠ some wb := fun e => by have := (own5.lt wb e).1; have := hg5.size; omega
            have hs4 := Sl.of_own own5
            obtain ⟨a4, c4, rfl⟩ := hs4.form
            have HSO4 := Lib.hid hso4
            have HS5 := Lib.hid hs4
            clear own4 own5 g4 at4 hso4 hs4
            have hb5W4 : Below w5.heap.size w5 W4 := hb5W.out.trans (hbW4.mono hb5W.out.size)
            go_wp2
            go_roundw
            case rel => exact ⟨m + 1, sn ++ [x], a4, c4, v2, by go_num, by omega, rfl, HS5.out, HSO4.out, by simp; omega, HW5.out.below hb5W4 (Nat.le_refl _), (hgr.trans hg5).trans (below_grown hb5W4 _), HST.out⟩
            case measure => simp [intOf]; omega
           ·
            have q6 : ((nx.kind : Int) == 6) = false := by simp; omega
            have q4 : ((nx.kind : Int) == 4) = false := by simp; omega
            have hst := HST.out
            rw [if_neg (by omega)] at hst
            have HST := Lib.hid hst
            clear h hst
            go_wp2_with fail
            refine T5.out.mono ?_
            rintro e w6 ⟨kx6, cx6, rfl, _, hb6⟩
            go_wp2_with fail
            refine (T6 w6 (Nat.le_trans hB5 hb6.size) (HX5.out.below hb6 hB5)).out.mono ?_
            rintro e w7 ⟨kx7, cx7, rfl, _, hb7⟩
            have hb57 := hb6.trans (hb7.mono hb6.size)
            go_wp2
            have hb5W4 := hb57
            go_roundw
            case rel => exact ⟨m + 1, sn, ra, rc, v2, by go_num, by omega, rfl, (HSL5.out.below hb57 hg5.size).more (Nat.le_trans hg5.size hb5W4.size), HSO.out, by omega, HW5.out.below hb5W4 (Nat.le_refl _), (hgr.trans hg5).trans (below_grown hb5W4 _), HST.out⟩
            case measure => simp [intOf]; omega
        ·
         obtain rfl : m = nd.kids.length := by omega
         have he := HGO.out
         rw [List.drop_length, Hg.visitGo] at he
         injection he with he
         subst he
         go_wp2
         go_end0
         exact ⟨rfl, HWr.out, hgw4.trans hgr⟩
     ·
      as_aux_lemma =>
       obtain ⟨_, c1, _, _, _, _, hf⟩ := HW3.out.cell
       have f1 := hf 1
       clear hf
       go_upto_region 35 with fail
       have hW4 : WkAt (w3.setCell ⟨wb, 1, none⟩ (.bool true)) wb { al with vis := ⟨al.vis.hidden || true, al.vis.wrong || Hg.nodeBad l nd fn⟩ } := by rw [Bool.or_true]; exact HW3.out.hide
       have hg4 : w2.grownBy (w3.setCell ⟨wb, 1, none⟩ (.bool true)) (some wb) := wk_grown hg3 1 _
       generalize World.setCell w3 _ _ = w4 at hW4 hg4 ⊢
       generalize Hg.nodeBad l nd fn = nbad at hW4 HV HW3
       generalize (⟨al.vis.hidden || true, al.vis.wrong || nbad⟩ : Hg.Vis) = vi0 at hW4 HV
       clear k0 k1 k2 k3 k4 k5
       obtain ⟨_, _, _, _, _, k5⟩ := (HN.out.grown hg4 (by omega)).cell
       have HW4 := Lib.hid hW4
       have hgw4 : w.grownBy w4 (some wb) := (below_grown hb2 _).trans hg4
       have HS4 := Lib.hid (Sl.grown HS.out (Nat.le_refl _) hgw4 (fun g hg => by injection hg with hg; subst hg; exact HSW.out))
       have hsz4 := hgw4.size
       clear hW4
       go_wp2_with fail
       go_loopw [3, 159] (fun sv q wr => ∃ (m : Nat) (seen' : List Nat) (ra : Option Addr) (rc : Nat) (vi' : Hg.Vis), q = .int .i64 m ∧ m ≤ nd.kids.length ∧ sv = .slice ra seen'.length rc ∧ Sl wr wr.heap.size (.slice ra seen'.length rc) seen'.length (seen'.map idV) ∧ (Value.slice ra seen'.length rc).ownBlock ≠ some wb ∧ seen'.length ≤ seen.length + m ∧ WkAt wr wb { al with vis := vi' } ∧ w4.grownBy wr (some wb) ∧ Hg.visitGo l (Hg.visitF l fn f) (nd.kids.drop m) seen' vi' = some vi) (fun _ q _ => nd.kids.length - (intOf q).toNat)
       case atStart => exact ⟨0, seen, sa, sc, vi0, rfl, Nat.zero_le _, rfl, HS4.out.more hsz4, HSW.out, by omega, HW4.out, ⟨rfl, rfl, rfl, Nat.le_refl _, fun _ _ _ => rfl⟩, HV.out⟩
       case round =>
        obtain ⟨m, sn, ra, rc, vi', rfl, hm, rfl, hsl', hso, hsn, hWr, hgr, hgo⟩ := hrel
        have HSL := Lib.hid hsl'
        have HSO := Lib.hid hso
        have HWr := Lib.hid hWr
        have HGO := Lib.hid hgo
        clear hsl' hso hWr hgo HV k5
        have hg2r := hg4.trans hgr
        have hbr : Below B w2 wr := below_of_grown hBw hg2r hbw2
        by_cases hlt : m < nd.kids.length
        ·
         obtain ⟨b3, o3, rfl, _, kc3⟩ := (HK3.out.below hbr (Nat.le_refl _)).idAt hlt
         have hk0 : nd.kids[m] ≠ 0 := hz1.out _ (List.getElem_mem hlt)
         have hstep := HGO.out
         rw [List.drop_eq_getElem_cons hlt, Hg.visitGo] at hstep
         generalize nd.kids[m] = x at kc3 hstep hk0
         cases hvx : Hg.visitF l fn f vi' x sn with
         | none => rw [hvx] at hstep; cases hstep
         | some v2 =>
           rw [hvx] at hstep
           dsimp only at hstep
           unfold Hg.kindOf at hstep
           have TV := Lib.hid (IH.out x _ sn { al with vis := vi' } v2 wr hk0 (hX2.out.below hbr (Nat.le_refl _)) HSL.out HSO.out (by omega) HWr.out hvx)
           have HST := Lib.hid hstep
           clear hstep hvx hk0 HGO
           go_wp2_with fail
           refine TV.out.mono ?_
           rintro e w5 ⟨rfl, hW5, hg5⟩
           have HW5 := Lib.hid hW5
           clear hW5
           have hg25 := hg2r.trans hg5
           have hb5 : Below B w2 w5 := below_of_grown hBw hg25 hbw2
           have hB5 : B ≤ w5.heap.size := Nat.le_trans hBw2 hg25.size
           have HX5 := Lib.hid (hX2.out.below hb5 (Nat.le_refl _))
           have T5 := TN x w5 hB5 HX5.out
           have T6 := fun W h1 h2 => TN x W h1 h2
           generalize Hg.nodeOf l x = nx at T5 T6 HST
           have hwr : wb < wr.heap.size := HWr.out.lt
           have HSL5 := Lib.hid (Sl.grown HSL.out (Nat.le_refl _) hg5 (fun g hg => by injection hg with hg; subst hg; exact HSO.out))
           rcases (show nx.kind = 6 ∨ nx.kind = 4 ∨ (nx.kind ≠ 6 ∧ nx.kind ≠ 4) by omega) with h | h | h
           ·
            have q6 : ((nx.kind : Int) == 6) = true := by simp [h]
            have hst := HST.out
            rw [if_pos (by omega)] at hst
            have HST := Lib.hid hst
            clear h hst
            go_wp2_with fail
            refine T5.out.mono ?_
            rintro e w6 ⟨kx6, cx6, rfl, _, hb6⟩
            have hb5W := Lib.hid hb6
            have hszW := hb6.size
            have HSLW := Lib.hid (HSL5.out.below hb6 hg5.size)
            go_wp2_with (at_builtin; refine wpList_append_sl _ rfl (.tmp 181) (.tmp 182) _ rfl w6.heap.size 28 j0 _ 8 Tryz.underlying29 hj hj0 hj1 hj2 rfl _ _ _ rfl (ownsRow_empty _ _ _ ?_) wr.heap.size _ _ _ rfl (HSLW.out.alloc ?_ _) ?_ (ids_one _) ?_ ?_ ?_ ?_)
            ·
             omega
            ·
             have := hg5.size; omega
            ·
             simp
            ·
             unfold maxLen; omega
            ·
             omega
            ·
             simp
            intro v3 W3 own3 g3 at3
            try simp only [Nat.zero_add, List.nil_append] at own3
            have hbW3 : Below w6.heap.size w6 W3 := ((Below.refl w6.heap.size w6).alloc (Nat.le_refl _) (.cells #[] 28)).trans ⟨g3.os, g3.tape, g3.output, g3.size, fun q hq => g3.block q (by simp; omega) (fun e => by
             have e' : some q = some w6.heap.size := e
             injection e' with e'
             omega)⟩
            have hsz3 := hbW3.size
            have OW3 := Lib.hid own3
            clear own3 g3 at3
            go_wp2_with (at_builtin; refine wpList_append_own_at _ rfl (.tmp 183) (.tmp 185) _ rfl w6.heap.size 28 j0 _ 1 8 Tryz.underlying29 hj hj0 hj1 hj2 rfl (by decide) _ _ _ rfl (OW3.out.alloc _) ⟨_, 0, none⟩ 1 1 [idV x] rfl rfl (cells_new _ _ _) ?_ ?_ ?_ ?_ ?_)
            ·
             intro u hu; simp only [List.mem_singleton] at hu; subst hu; rfl
            ·
             unfold maxLen; omega
            ·
             omega
            ·
             simp; omega
            intro v4 W4 own4 g4 _ at4
            have hbW4 : Below w6.heap.size w6 W4 := (hbW3.alloc hsz3 (.cells #[idV x] 28)).trans ⟨g4.os, g4.tape, g4.output, g4.size, fun q hq => g4.block q (by simp; omega) (fun e => by have := (OW3.out.lt q e.symm).1; omega)⟩
            have own5 : W4.ownsRow w6.heap.size 28 1 v4 (sn ++ [x]).length ((sn ++ [x]).map idV) := by simpa using own4
            have hso4 : v4.ownBlock ≠ some wb := fun e => by have := (own5.lt wb e).1; have := hg5.size; omega
            have hs4 := Sl.of_own own5
            obtain ⟨a4, c4, rfl⟩ := hs4.form
            have HSO4 := Lib.hid hso4
            have HS5 := Lib.hid hs4
            clear own4 own5 g4 at4 hso4 hs4
            have hb5W4 : Below w5.heap.size w5 W4 := hb5W.out.trans (hbW4.mono hb5W.out.size)
            go_wp2
            go_roundw
            case rel => exact ⟨m + 1, sn ++ [x], a4, c4, v2, by go_num, by omega, rfl, HS5.out, HSO4.out, by simp; omega, HW5.out.below hb5W4 (Nat.le_refl _), (hgr.trans hg5).trans (below_grown hb5W4 _), HST.out⟩
            case measure => simp [intOf]; omega
           ·
            have q6 : ((nx.kind : Int) == 6) = false := by simp [h]
            have q4 : ((nx.kind : Int) == 4) = true := by simp [h]
            have hst := HST.out
            rw [if_pos (by omega)] at hst
            have HST := Lib.hid hst
            clear h hst
            go_wp2_with fail
            refine T5.out.mono ?_
            rintro e w6 ⟨kx6, cx6, rfl, _, hb6⟩
            go_wp2_with fail
            refine (T6 w6 (Nat.le_trans hB5 hb6.size) (HX5.out.below hb6 hB5)).out.mono ?_
            rintro e w7 ⟨kx7, cx7, rfl, _, hb7⟩
            have hb57 := hb6.trans (hb7.mono hb6.size)
            have hb5W := Lib.hid hb57
            have hszW := hb57.size
            have HSLW := Lib.hid (HSL5.out.below hb57 hg5.size)
            go_wp2_with (at_builtin; refine wpList_append_sl _ rfl (.tmp 181) (.tmp 182) _ rfl w7.heap.size 28 j0 _ 8 Tryz.underlying29 hj hj0 hj1 hj2 rfl _ _ _ rfl (ownsRow_empty _ _ _ ?_) wr.heap.size _ _ _ rfl (HSLW.out.alloc ?_ _) ?_ (ids_one _) ?_ ?_ ?_ ?_)
            ·
             omega
            ·
             have := hg5.size; omega
            ·
             simp
            ·
             unfold maxLen; omega
            ·
             omega
            ·
             simp
            intro v3 W3 own3 g3 at3
            try simp only [Nat.zero_add, List.nil_append] at own3
            have hbW3 : Below w7.heap.size w7 W3 := ((Below.refl w7.heap.size w7).alloc (Nat.le_refl _) (.cells #[] 28)).trans ⟨g3.os, g3.tape, g3.output, g3.size, fun q hq => g3.block q (by simp; omega) (fun e => by
             have e' : some q = some w7.heap.size := e
             injection e' with e'
             omega)⟩
            have hsz3 := hbW3.size
            have OW3 := Lib.hid own3
            clear own3 g3 at3
            go_wp2_with (at_builtin; refine wpList_append_own_at _ rfl (.tmp 183) (.tmp 185) _ rfl w7.heap.size 28 j0 _ 1 8 Tryz.underlying29 hj hj0 hj1 hj2 rfl (by decide) _ _ _ rfl (OW3.out.alloc _) ⟨_, 0, none⟩ 1 1 [idV x] rfl rfl (cells_new _ _ _) ?_ ?_ ?_ ?_ ?_)
            ·
             intro u hu; simp only [List.mem_singleton] at hu; subst hu; rfl
            ·
             unfold maxLen; omega
            ·
             omega
            ·
             simp; omega
            intro v4 W4 own4 g4 _ at4
            have hbW4 : Below w7.heap.size w7 W4 := (hbW3.alloc hsz3 (.cells #[idV x] 28)).trans ⟨g4.os, g4.tape, g4.output, g4.size, fun q hq => g4.block q (by simp; omega) (fun e => by have := (OW3.out.lt q e.symm).1; omega)⟩
            have own5 : W4.ownsRow w7.heap.size 28 1 v4 (sn ++ [x]).length ((sn ++ [x]).map idV) := by simpa using own4
            have hso4 : v4.ownBlock ≠ some wb := fun e => by have := (own5.lt wb e).1; have := hg5.size; omega
            have hs4 := Sl.of_own own5
            obtain ⟨a4, c4, rfl⟩ := hs4.form
            have HSO4 := Lib.hid hso4
            have HS5 := Lib.hid hs4
            clear own4 own5 g4 at4 hso4 hs4
            have hb5W4 : Below w5.heap.size w5 W4 := hb5W.out.trans (hbW4.mono hb5W.out.size)
            go_wp2
            go_roundw
            case rel => exact ⟨m + 1, sn ++ [x], a4, c4, v2, by go_num, by omega, rfl, HS5.out, HSO4.out, by simp; omega, HW5.out.below hb5W4 (Nat.le_refl _), (hgr.trans hg5).trans (below_grown hb5W4 _), HST.out⟩
            case measure => simp [intOf]; omega
           ·
            have q6 : ((nx.kind : Int) == 6) = false := by simp; omega
            have q4 : ((nx.kind : Int) == 4) = false := by simp; omega
            have hst := HST.out
            rw [if_neg (by omega)] at hst
            have HST := Lib.hid hst
            clear h hst
            go_wp2_with fail
            refine T5.out.mono ?_
            rintro e w6 ⟨kx6, cx6, rfl, _, hb6⟩
            go_wp2_with fail
            refine (T6 w6 (Nat.le_trans hB5 hb6.size) (HX5.out.below hb6 hB5)).out.mono ?_
            rintro e w7 ⟨kx7, cx7, rfl, _, hb7⟩
            have hb57 := hb6.trans (hb7.mono hb6.size)
            go_wp2
            have hb5W4 := hb57
            go_roundw
            case rel => exact ⟨m + 1, sn, ra, rc, v2, by go_num, by omega, rfl, (HSL5.out.below hb57 hg5.size).more (Nat.le_trans hg5.size hb5W4.size), HSO.out, by omega, HW5.out.below hb5W4 (Nat.le_refl _), (hgr.trans hg5).trans (below_grown hb5W4 _), HST.out⟩
            case measure => simp [intOf]; omega
        ·
         obtain rfl : m = nd.kids.length := by omega
         have he := HGO.out
         rw [List.drop_length, Hg.visitGo] at he
         injection he with he
         subst he
         go_wp2
         go_end0
         exact ⟨rfl, HWr.out, hgw4.trans hgr⟩
end Go.Proofs.YtihmbbkppkgcmaaGreatDoor
