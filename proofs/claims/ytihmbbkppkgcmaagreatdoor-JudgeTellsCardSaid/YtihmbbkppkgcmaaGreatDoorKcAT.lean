/-
  Part of a proof: contracts of functions that the claim reaches, and plain lemmas.
-/
import Derived.Test.YtihmbbkppkgcmaaGreatDoorKcAQ
import Derived.Test.YtihmbbkppkgcmaaGreatDoorKcAN
import Derived.Test.YtihmbbkppkgcmaaGreatDoorKcAM
import Derived.Maps.RangeWalk
set_option linter.all false
namespace Go.Proofs.YtihmbbkppkgcmaaGreatDoor
open Go.RowKit
theorem box7 {w w1 : World} {v0 v1 v2 v3 v4 v5 v6 : Value} {t : TypeId} (hb : Below (w.alloc (.cells #[v0, v1, v2, v3, v4, v5, v6] t)).heap.size (w.alloc (.cells #[v0, v1, v2, v3, v4, v5, v6] t)) w1) :
 (w1.cell? ⟨w.heap.size, 0, none⟩ = some v0 ∧ w1.cell? ⟨w.heap.size, 1, none⟩ = some v1 ∧ w1.cell? ⟨w.heap.size, 2, none⟩ = some v2 ∧ w1.cell? ⟨w.heap.size, 3, none⟩ = some v3 ∧ w1.cell? ⟨w.heap.size, 4, none⟩ = some v4 ∧ w1.cell? ⟨w.heap.size, 5, none⟩ = some v5 ∧ w1.cell? ⟨w.heap.size, 6, none⟩ = some v6) ∧
 w.heap.size < w1.heap.size ∧ Below w.heap.size w w1 := by
 have hh : w1.heap[w.heap.size]? = some (.cells #[v0, v1, v2, v3, v4, v5, v6] t (0, 0)) := (hb.block w.heap.size (by simp)).trans (heap_alloc_new w _)
 have hc := fun i => cell_of_row w1 w.heap.size i _ _ (0, 0) hh
 refine ⟨⟨hc 0, hc 1, hc 2, hc 3, hc 4, hc 5, hc 6⟩, ?_, ?_⟩
 ·
  have := hb.size; simp at this; omega
 ·
  exact ((Below.refl w.heap.size w).alloc (Nat.le_refl _) _).trans (hb.mono (by simp))
@[reducible] def rowBox (r : Hg.Row) (ka : Option Addr) (kc : Nat) : Obj :=
 .cells #[.int .u64 (r.id : Int), .int .u8 (r.node.kind : Int), strV r.node.name, .int .i64 r.node.num, .int .u8 (r.node.type : Int), .int .u64 (r.node.ref : Int), .slice ka r.node.kids.length kc] 33
theorem tree_some {l : List Hg.Row} {k : Nat} (h : Hg.atI l 1 = some k) : Hg.tree l = if (Hg.rowAt l k).node.kind ≠ 1 ∨ (Hg.walk l 1).length ≠ l.length then false else (match Hg.treeRows l l 0 with
 | none => false
 | some n => decide (n + 1 = l.length) && decide (0 < Hg.deepF l 200 1)) := by unfold Hg.tree; rw [h]; rfl
theorem tree_none {l : List Hg.Row} (h : Hg.atI l 1 = none) : Hg.tree l = false := by unfold Hg.tree; rw [h]
set_option maxHeartbeats 8000000 in
set_option maxRecDepth 100000 in
theorem tree7_any (B : Nat) (v : Value) (l : List Hg.Row) (w : World) (hB : B ≤ w.heap.size) (hx : RowsAt w B v l) (hl : l.length ≤ 1000000000) (hks : Hg.kidsSum l ≤ 100000000)
 (hkl : ∀ (j : Nat) (r : Hg.Row), l[j]? = some r → r.node.kids.length ≤ 1000000000) :
 Calls Tryz.prog 74 #[v] w fun e w' => e = .returned (.bool (Hg.tree l)) ∧ Below w.heap.size w w' := by
 have hX := Lib.hid hx
 have HKL := Lib.hid hkl
 obtain ⟨a, c, rfl⟩ := hx.form
 clear hx hkl
 cases hk : Hg.atI l 1 with
 | none =>
   have HT := Lib.hid (tree_none hk)
   have HA := Lib.hid (atInt_none hk)
   clear hk
   go_enter Tryz.func74, Tryz.ntmps74
   go_wp2_with fail
   refine (at_any B _ l 1 _ hB hX.out hl).mono ?_
   rintro e w1 ⟨rfl, hb1⟩
   rw [HA.out]
   go_wp2
   go_ret
   exact ⟨ret_bool HT.out.symm, hb1⟩
 | some k =>
   have ht := tree_some hk
   have HA := Lib.hid (atInt_some hk)
   have hkr := atI_row hk
   have hkl1 : k < l.length := (List.getElem?_eq_some_iff.1 hkr).1
   have HKR := Lib.hid hkr
   clear hk hkr
   by_cases h1 : (Hg.rowAt l k).node.kind = 1
   ·
    have q1 : (((Hg.rowAt l k).node.kind : Int) != 1) = false := by simp [h1]
    by_cases h2 : (Hg.walk l 1).length = l.length
    ·
     rw [if_neg (by simp [h1, h2])] at ht
     have HT := Lib.hid ht
     have H2 := Lib.hid h2
     clear ht h1 h2
     have TW := fun W h1 h2 => Lib.hid (walk7_any B (.slice a l.length c) l 1 W h1 h2 hl hks)
     go_enter Tryz.func74, Tryz.ntmps74
     go_wp2_with fail
     refine (at_any B _ l 1 _ hB hX.out hl).mono ?_
     rintro e w1 ⟨rfl, hb1⟩
     rw [HA.out]
     go_wp2_with fail
     have hB1 := Nat.le_trans hB hb1.size
     refine (at_any B _ l 1 _ hB1 (hX.out.below hb1 hB) hl).mono ?_
     rintro e w2 ⟨rfl, hb2⟩
     rw [HA.out]
     have hb12 := hb1.trans (hb2.mono hb1.size)
     have hX2 := hX.out.below hb12 hB
     obtain ⟨br, orr, ka, kc, rfl, hbrB, _, _, d1, _, _, _, _, _⟩ := hX2.at_ HKR.out
     have HX2 := Lib.hid hX2
     clear hX2
     go_wp2_with fail
     refine ((TW _ (Nat.le_trans hB hb12.size) HX2.out).out).mono ?_
     rintro e w3 ⟨⟨a3, c3, rfl, _⟩, hb3⟩
     rw [H2.out]
     have hb13 := hb12.trans (hb3.mono hb12.size)
     clear d1 HX2 hb1 hb2 hb3 hb12 hB1
     have hI : Below w.heap.size w w3 := hb13
     go_wp2
     go_loopw [3, 31] (fun p q wr => ∃ (i n : Nat), q = .int .i64 i ∧ i ≤ l.length ∧ p = .int .i64 n ∧ n ≤ i * 1000000000 ∧ Hg.treeRows l (l.drop i) n = Hg.treeRows l l 0 ∧ Below w.heap.size w wr) (fun _ q _ => l.length - (intOf q).toNat)
     case atStart => exact ⟨0, 0, rfl, Nat.zero_le _, rfl, Nat.zero_le _, rfl, hI⟩
     case round =>
      obtain ⟨i, n, rfl, hi, rfl, hn, hg, hbw⟩ := hrel
      have HG := Lib.hid hg
      clear hg hI hb13
      obtain ⟨wo, rfl⟩ : ∃ wo : World, wo = wr := ⟨_, rfl⟩
      by_cases hlt : i < l.length
      ·
       have hri : l[i]? = some l[i] := List.getElem?_eq_getElem hlt
       obtain ⟨b', o', ki, kci, e0, _, hkid, d0, d1, d2, d3, d4, d5, d6⟩ := (hX.out.below hbw hB).at_ hri
       injection e0 with e0
       injection e0 with e1 e2 _
       subst e1
       subst e2
       have HK := Lib.hid hkid
       have hkl2 := HKL.out i l[i] hri
       have hstep : Hg.treeRows l (l[i] :: l.drop (i + 1)) n = Hg.treeRows l l 0 := by rw [← List.drop_eq_getElem_cons hlt]; exact HG.out
       rw [Hg.treeRows] at hstep
       clear hkid hri
       generalize l[i] = r at d0 d1 d2 d3 d4 d5 d6 HK hkl2 hstep
       have hBw : B ≤ wo.heap.size := Nat.le_trans hB hbw.size
       have HBX := Lib.hid (Below.refl (wo.alloc (rowBox r ki kci)).heap.size (wo.alloc (rowBox r ki kci)))
       have T := fun x W h1 h2 => Lib.hid (at_any B (.slice (some ⟨br, orr, none⟩) l.length c) l x W h1 h2 hl)
       by_cases hr0 : r.node.ref = 0
       ·
        rw [if_neg (by simp [hr0])] at hstep
        have q2 : ((r.node.ref : Int) != 0) = false := by simp [hr0]
        clear hr0
        have HS := Lib.hid hstep
        clear hstep HG
        go_wp2_with fail
        go_loopw [3, 51] (fun p q W => ∃ (m nn : Nat), q = .int .i64 m ∧ m ≤ r.node.kids.length ∧ p = .int .i64 nn ∧ nn ≤ i * 1000000000 + m ∧ Hg.treeKids l (r.node.kids.drop m) nn = Hg.treeKids l r.node.kids n ∧ Below (wo.alloc (rowBox r ki kci)).heap.size (wo.alloc (rowBox r ki kci)) W) (fun _ q _ => r.node.kids.length - (intOf q).toNat)
        case atStart => exact ⟨0, n, rfl, Nat.zero_le _, rfl, Nat.le_trans hn (Nat.le_add_right _ _), rfl, HBX.out⟩
        case round =>
         obtain ⟨m, nn, rfl, hm, rfl, hnn, hg, hbW⟩ := hrel
         have HG2 := Lib.hid hg
         clear hg
         obtain ⟨⟨k0, k1, k2, k3, k4, k5, k6⟩, hszW, hbbW⟩ := box7 hbW
         have hbwW : Below w.heap.size w wr := hbw.trans (hbbW.mono hbw.size)
         by_cases hlm : m < r.node.kids.length
         ·
          obtain ⟨b3, o3, rfl, _, kc3⟩ := (HK.out.below hbbW hBw).idAt hlm
          have hstep : Hg.treeKids l (r.node.kids[m] :: r.node.kids.drop (m + 1)) nn = Hg.treeKids l r.node.kids n := by rw [← List.drop_eq_getElem_cons hlm]; exact HG2.out
          rw [Hg.treeKids] at hstep
          generalize r.node.kids[m] = x at kc3 hstep
          have hBW : B ≤ wr.heap.size := Nat.le_trans hB hbwW.size
          cases hxa : Hg.atI l x with
          | none =>
            rw [if_pos (.inl hxa)] at hstep
            have HFIN := Lib.hid (show Hg.tree l = false by rw [HT.out, ← HS.out, ← hstep])
            have HA2 := Lib.hid (atInt_none hxa)
            clear hxa hstep HG2
            go_wp2_with (go_at_call 9; refine ((T x _ hBW (hX.out.below hbwW hB)).out).mono ?_; rintro e w5 ⟨rfl, hb5⟩; rw [HA2.out])
            go_ret
            exact ⟨ret_bool HFIN.out.symm, hbwW.trans (hb5.mono hbwW.size)⟩
          | some kx =>
            have HA2 := Lib.hid (atInt_some hxa)
            by_cases hx1 : x = 1
            ·
             rw [if_pos (.inr hx1)] at hstep
             have HFIN := Lib.hid (show Hg.tree l = false by rw [HT.out, ← HS.out, ← hstep])
             have q3 : ((x : Int) == 1) = true := by simp [hx1]
             clear hxa hstep HG2 hx1
             go_wp2_with (go_at_call 9; refine ((T x _ hBW (hX.out.below hbwW hB)).out).mono ?_; rintro e w5 ⟨rfl, hb5⟩; rw [HA2.out])
             go_ret
             exact ⟨ret_bool HFIN.out.symm, hbwW.trans (hb5.mono hbwW.size)⟩
            ·
             rw [if_neg (by simp [hxa, hx1])] at hstep
             have HS2 := Lib.hid hstep
             have q3 : ((x : Int) == 1) = false := by simp; omega
             clear hxa hstep HG2 hx1
             go_wp2_with (go_at_call 9; refine ((T x _ hBW (hX.out.below hbwW hB)).out).mono ?_; rintro e w5 ⟨rfl, hb5⟩; rw [HA2.out])
             go_roundw
             case rel => exact ⟨m + 1, nn + 1, by go_num, by omega, by go_num, by omega, HS2.out, hbW.trans (hb5.mono hbW.size)⟩
             case measure => simp [intOf]; omega
         ·
          obtain rfl : m = r.node.kids.length := by omega
          have he := HG2.out
          rw [List.drop_length, Hg.treeKids] at he
          have hs := HS.out
          rw [← he] at hs
          dsimp only at hs
          have HS3 := Lib.hid hs
          clear he hs HG2
          go_wp2
          go_roundw
          case rel => exact ⟨i + 1, nn, by go_num, by omega, rfl, by omega, HS3.out, hbwW⟩
          case measure => simp [intOf]; omega
       ·
        have q2 : ((r.node.ref : Int) != 0) = true := by simp; omega
        cases hrf : Hg.atI l r.node.ref with
        | none =>
          rw [if_pos ⟨hr0, hrf⟩] at hstep
          have HFIN := Lib.hid (show Hg.tree l = false by rw [HT.out, ← hstep])
          have HA2 := Lib.hid (atInt_none hrf)
          clear hr0 hrf hstep HG
          go_wp2_with (go_at_call 9; refine ((T r.node.ref _ (by simp; omega) (hX.out.below (hbw.alloc hbw.size _) hB)).out).mono ?_; rintro e w4 ⟨rfl, hb4⟩; rw [HA2.out])
          go_ret
          exact ⟨ret_bool HFIN.out.symm, (hbw.alloc hbw.size (rowBox r ki kci)).trans (hb4.mono (by have := hbw.size; simp; omega))⟩
        | some kr =>
          rw [if_neg (by simp [hrf])] at hstep
          have HA2 := Lib.hid (atInt_some hrf)
          clear hr0 hrf
          have HS := Lib.hid hstep
          clear hstep HG
          go_wp2_with (go_at_call 9; refine ((T r.node.ref _ (by simp; omega) (hX.out.below (hbw.alloc hbw.size _) hB)).out).mono ?_; rintro e w4 ⟨rfl, hb4⟩; rw [HA2.out]; obtain ⟨⟨x0, x1, x2, x3, x4, x5, x6⟩, _, _⟩ := box7 hb4; have HBX := Lib.hid hb4)
          go_loopw [3, 51] (fun p q W => ∃ (m nn : Nat), q = .int .i64 m ∧ m ≤ r.node.kids.length ∧ p = .int .i64 nn ∧ nn ≤ i * 1000000000 + m ∧ Hg.treeKids l (r.node.kids.drop m) nn = Hg.treeKids l r.node.kids n ∧ Below (wo.alloc (rowBox r ki kci)).heap.size (wo.alloc (rowBox r ki kci)) W) (fun _ q _ => r.node.kids.length - (intOf q).toNat)
          case atStart => exact ⟨0, n, rfl, Nat.zero_le _, rfl, Nat.le_trans hn (Nat.le_add_right _ _), rfl, HBX.out⟩
          case round =>
           obtain ⟨m, nn, rfl, hm, rfl, hnn, hg, hbW⟩ := hrel
           have HG2 := Lib.hid hg
           clear hg
           obtain ⟨⟨k0, k1, k2, k3, k4, k5, k6⟩, hszW, hbbW⟩ := box7 hbW
           have hbwW : Below w.heap.size w wr := hbw.trans (hbbW.mono hbw.size)
           by_cases hlm : m < r.node.kids.length
           ·
            obtain ⟨b3, o3, rfl, _, kc3⟩ := (HK.out.below hbbW hBw).idAt hlm
            have hstep : Hg.treeKids l (r.node.kids[m] :: r.node.kids.drop (m + 1)) nn = Hg.treeKids l r.node.kids n := by rw [← List.drop_eq_getElem_cons hlm]; exact HG2.out
            rw [Hg.treeKids] at hstep
            generalize r.node.kids[m] = x at kc3 hstep
            have hBW : B ≤ wr.heap.size := Nat.le_trans hB hbwW.size
            cases hxa : Hg.atI l x with
            | none =>
              rw [if_pos (.inl hxa)] at hstep
              have HFIN := Lib.hid (show Hg.tree l = false by rw [HT.out, ← HS.out, ← hstep])
              have HA2 := Lib.hid (atInt_none hxa)
              clear hxa hstep HG2
              go_wp2_with (go_at_call 9; refine ((T x _ hBW (hX.out.below hbwW hB)).out).mono ?_; rintro e w5 ⟨rfl, hb5⟩; rw [HA2.out])
              go_ret
              exact ⟨ret_bool HFIN.out.symm, hbwW.trans (hb5.mono hbwW.size)⟩
            | some kx =>
              have HA2 := Lib.hid (atInt_some hxa)
              by_cases hx1 : x = 1
              ·
               rw [if_pos (.inr hx1)] at hstep
               have HFIN := Lib.hid (show Hg.tree l = false by rw [HT.out, ← HS.out, ← hstep])
               have q3 : ((x : Int) == 1) = true := by simp [hx1]
               clear hxa hstep HG2 hx1
               go_wp2_with (go_at_call 9; refine ((T x _ hBW (hX.out.below hbwW hB)).out).mono ?_; rintro e w5 ⟨rfl, hb5⟩; rw [HA2.out])
               go_ret
               exact ⟨ret_bool HFIN.out.symm, hbwW.trans (hb5.mono hbwW.size)⟩
              ·
               rw [if_neg (by simp [hxa, hx1])] at hstep
               have HS2 := Lib.hid hstep
               have q3 : ((x : Int) == 1) = false := by simp; omega
               clear hxa hstep HG2 hx1
               go_wp2_with (go_at_call 9; refine ((T x _ hBW (hX.out.below hbwW hB)).out).mono ?_; rintro e w5 ⟨rfl, hb5⟩; rw [HA2.out])
               go_roundw
               case rel => exact ⟨m + 1, nn + 1, by go_num, by omega, by go_num, by omega, HS2.out, hbW.trans (hb5.mono hbW.size)⟩
               case measure => simp [intOf]; omega
           ·
            obtain rfl : m = r.node.kids.length := by omega
            have he := HG2.out
            rw [List.drop_length, Hg.treeKids] at he
            have hs := HS.out
            rw [← he] at hs
            dsimp only at hs
            have HS3 := Lib.hid hs
            clear he hs HG2
            go_wp2
            go_roundw
            case rel => exact ⟨i + 1, nn, by go_num, by omega, rfl, by omega, HS3.out, hbwW⟩
            case measure => simp [intOf]; omega
      ·
       obtain rfl : i = l.length := by omega
       have he := HG.out
       rw [List.drop_length, Hg.treeRows] at he
       have hfin := HT.out
       rw [← he] at hfin
       dsimp only at hfin
       have hb : Below w.heap.size w wo := hbw
       by_cases hn1 : n + 1 = l.length
       ·
        have q1 : ((n : Int) == (l.length : Int) - 1) = true := by simp; omega
        have hfin2 : Hg.tree l = decide (0 < Hg.deepF l 200 1) := by rw [hfin, decide_eq_true hn1]; rfl
        have HF := Lib.hid hfin2
        have hl0 : 0 < l.length := by omega
        have hle := deepF_le l 200 1
        clear he hfin hfin2 HG hn1
        go_wp2_with (go_at_call 113; refine (deep7_any B _ l hl hl0 HKL.out 200 1 _ (by omega) (Nat.le_trans hB hbw.size) (hX.out.below hbw hB)).mono ?_; rintro e w4 ⟨rfl, hb4⟩)
        go_ret
        refine ⟨ret_bool ?_, hb.trans (hb4.mono hb.size)⟩
        rw [HF.out]
        try simp
       ·
        have q1 : ((n : Int) == (l.length : Int) - 1) = false := by simp; omega
        have HF := Lib.hid (show Hg.tree l = false by rw [hfin, decide_eq_false hn1]; rfl)
        clear he hfin HG hn1
        go_wp2
        go_ret
        exact ⟨ret_bool HF.out.symm, hb⟩
    ·
     rw [if_pos (.inr h2)] at ht
     have HT := Lib.hid ht
     have q2 : (((Hg.walk l 1).length : Int) != (l.length : Int)) = true := by simp; omega
     clear ht h1 h2
     have TW := fun W h1 h2 => Lib.hid (walk7_any B (.slice a l.length c) l 1 W h1 h2 hl hks)
     go_enter Tryz.func74, Tryz.ntmps74
     go_wp2_with fail
     refine (at_any B _ l 1 _ hB hX.out hl).mono ?_
     rintro e w1 ⟨rfl, hb1⟩
     rw [HA.out]
     go_wp2_with fail
     have hB1 := Nat.le_trans hB hb1.size
     refine (at_any B _ l 1 _ hB1 (hX.out.below hb1 hB) hl).mono ?_
     rintro e w2 ⟨rfl, hb2⟩
     rw [HA.out]
     have hb12 := hb1.trans (hb2.mono hb1.size)
     have hX2 := hX.out.below hb12 hB
     obtain ⟨br, orr, ka, kc, rfl, hbrB, _, _, d1, _, _, _, _, _⟩ := hX2.at_ HKR.out
     have HX2 := Lib.hid hX2
     clear hX2
     go_wp2_with fail
     refine ((TW _ (Nat.le_trans hB hb12.size) HX2.out).out).mono ?_
     rintro e w3 ⟨⟨a3, c3, rfl, _⟩, hb3⟩
     go_wp2
     go_ret
     exact ⟨ret_bool HT.out.symm, hb12.trans (hb3.mono hb12.size)⟩
   ·
    rw [if_pos (.inl h1)] at ht
    have HT := Lib.hid ht
    have q1 : (((Hg.rowAt l k).node.kind : Int) != 1) = true := by simp; omega
    clear ht h1
    go_enter Tryz.func74, Tryz.ntmps74
    go_wp2_with fail
    refine (at_any B _ l 1 _ hB hX.out hl).mono ?_
    rintro e w1 ⟨rfl, hb1⟩
    rw [HA.out]
    go_wp2_with fail
    have hB1 := Nat.le_trans hB hb1.size
    refine (at_any B _ l 1 _ hB1 (hX.out.below hb1 hB) hl).mono ?_
    rintro e w2 ⟨rfl, hb2⟩
    rw [HA.out]
    have hb12 := hb1.trans (hb2.mono hb1.size)
    obtain ⟨br, orr, ka, kc, rfl, hbrB, _, _, d1, _, _, _, _, _⟩ := (hX.out.below hb12 hB).at_ HKR.out
    go_wp2
    go_ret
    exact ⟨ret_bool HT.out.symm, hb12⟩
end Go.Proofs.YtihmbbkppkgcmaaGreatDoor
namespace Go.Proofs.YtihmbbkppkgcmaaGreatDoor
open Go.RowKit
theorem below_grown {w w' : World} (h : Below w.heap.size w w') (row : Option Nat) : w.grownBy w' row := ⟨h.os, h.tape, h.output, h.size, fun k hk _ => h.block k hk⟩
@[reducible] def nodeBox11 (n : Hg.Node) (ka : Option Addr) (kc : Nat) : Obj :=
 .cells #[.int .u8 (n.kind : Int), strV n.name, .int .i64 n.num, .int .u8 (n.type : Int), .int .u64 (n.ref : Int), .slice ka n.kids.length kc] 31
set_option maxHeartbeats 4000000 in
theorem type11_any (B : Nat) (v : Value) (l : List Hg.Row) (id : Nat) (w : World) (hB : B ≤ w.heap.size) (hx : RowsAt w B v l) (hl : l.length ≤ 1000000000) :
 Calls Tryz.prog 117 #[v, .int .u64 (id : Int)] w fun e w' => e = .returned (.int .u8 (Hg.typeOf l id : Int)) ∧ Below w.heap.size w w' := by
 have hX := Lib.hid hx
 obtain ⟨a, c, rfl⟩ := hx.form
 clear hx
 have ht : Hg.typeOf l id = (if (Hg.nodeOf l id).kind = 13 ∨ (Hg.nodeOf l id).kind = 17 ∨ (Hg.nodeOf l id).kind = 20 then 1
  else if (Hg.nodeOf l id).kind = 14 ∨ (Hg.nodeOf l id).kind = 16 then 2
  else if (Hg.nodeOf l id).kind = 18 then (if 5 < (Hg.nodeOf l id).num then 2 else 1)
  else if (Hg.nodeOf l id).kind = 15 ∨ (Hg.nodeOf l id).kind = 19 then (Hg.nodeOf l (Hg.nodeOf l id).ref).type else 0) := rfl
 have HT := Lib.hid ht
 clear ht
 have TN := fun x W h1 h2 => Lib.hid (node11_any B (.slice a l.length c) l x W h1 h2 hl)
 have T1 := TN id w hB hX.out
 generalize Hg.nodeOf l id = nd at HT T1
 have hcs : nd.kind = 13 ∨ nd.kind = 17 ∨ nd.kind = 20 ∨ nd.kind = 14 ∨ nd.kind = 16 ∨ nd.kind = 18 ∨ nd.kind = 15 ∨ nd.kind = 19 ∨ (nd.kind ≠ 13 ∧ nd.kind ≠ 17 ∧ nd.kind ≠ 20 ∧ nd.kind ≠ 14 ∧ nd.kind ≠ 16 ∧ nd.kind ≠ 18 ∧ nd.kind ≠ 15 ∧ nd.kind ≠ 19) := by omega
 rcases hcs with h | h | h | h | h | h | h | h | h
 ·
  have q13 : ((nd.kind : Int) == 13) = true := by simp [h]
  have q17 : ((nd.kind : Int) == 17) = false := by simp; omega
  have q20 : ((nd.kind : Int) == 20) = false := by simp; omega
  have q14 : ((nd.kind : Int) == 14) = false := by simp; omega
  have q16 : ((nd.kind : Int) == 16) = false := by simp; omega
  have q18 : ((nd.kind : Int) == 18) = false := by simp; omega
  have q15 : ((nd.kind : Int) == 15) = false := by simp; omega
  have q19 : ((nd.kind : Int) == 19) = false := by simp; omega
  have HV := Lib.hid (show Hg.typeOf l id = 1 by rw [HT.out, if_pos (by omega)])
  clear h
  go_enter Tryz.func117, Tryz.ntmps117
  go_wp2_with (go_at_call 80; refine T1.out.mono ?_; rintro e w1 ⟨ka, kc, rfl, _, hb1⟩)
  go_ret
  exact ⟨by rw [HV.out]; rfl, hb1.alloc hb1.size _⟩
 ·
  have q13 : ((nd.kind : Int) == 13) = false := by simp; omega
  have q17 : ((nd.kind : Int) == 17) = true := by simp [h]
  have q20 : ((nd.kind : Int) == 20) = false := by simp; omega
  have q14 : ((nd.kind : Int) == 14) = false := by simp; omega
  have q16 : ((nd.kind : Int) == 16) = false := by simp; omega
  have q18 : ((nd.kind : Int) == 18) = false := by simp; omega
  have q15 : ((nd.kind : Int) == 15) = false := by simp; omega
  have q19 : ((nd.kind : Int) == 19) = false := by simp; omega
  have HV := Lib.hid (show Hg.typeOf l id = 1 by rw [HT.out, if_pos (by omega)])
  clear h
  go_enter Tryz.func117, Tryz.ntmps117
  go_wp2_with (go_at_call 80; refine T1.out.mono ?_; rintro e w1 ⟨ka, kc, rfl, _, hb1⟩)
  go_ret
  exact ⟨by rw [HV.out]; rfl, hb1.alloc hb1.size _⟩
 ·
  have q13 : ((nd.kind : Int) == 13) = false := by simp; omega
  have q17 : ((nd.kind : Int) == 17) = false := by simp; omega
  have q20 : ((nd.kind : Int) == 20) = true := by simp [h]
  have q14 : ((nd.kind : Int) == 14) = false := by simp; omega
  have q16 : ((nd.kind : Int) == 16) = false := by simp; omega
  have q18 : ((nd.kind : Int) == 18) = false := by simp; omega
  have q15 : ((nd.kind : Int) == 15) = false := by simp; omega
  have q19 : ((nd.kind : Int) == 19) = false := by simp; omega
  have HV := Lib.hid (show Hg.typeOf l id = 1 by rw [HT.out, if_pos (by omega)])
  clear h
  go_enter Tryz.func117, Tryz.ntmps117
  go_wp2_with (go_at_call 80; refine T1.out.mono ?_; rintro e w1 ⟨ka, kc, rfl, _, hb1⟩)
  go_ret
  exact ⟨by rw [HV.out]; rfl, hb1.alloc hb1.size _⟩
 ·
  have q13 : ((nd.kind : Int) == 13) = false := by simp; omega
  have q17 : ((nd.kind : Int) == 17) = false := by simp; omega
  have q20 : ((nd.kind : Int) == 20) = false := by simp; omega
  have q14 : ((nd.kind : Int) == 14) = true := by simp [h]
  have q16 : ((nd.kind : Int) == 16) = false := by simp; omega
  have q18 : ((nd.kind : Int) == 18) = false := by simp; omega
  have q15 : ((nd.kind : Int) == 15) = false := by simp; omega
  have q19 : ((nd.kind : Int) == 19) = false := by simp; omega
  have HV := Lib.hid (show Hg.typeOf l id = 2 by rw [HT.out, if_neg (by omega), if_pos (by omega)])
  clear h
  go_enter Tryz.func117, Tryz.ntmps117
  go_wp2_with (go_at_call 80; refine T1.out.mono ?_; rintro e w1 ⟨ka, kc, rfl, _, hb1⟩)
  go_ret
  exact ⟨by rw [HV.out]; rfl, hb1.alloc hb1.size _⟩
 ·
  have q13 : ((nd.kind : Int) == 13) = false := by simp; omega
  have q17 : ((nd.kind : Int) == 17) = false := by simp; omega
  have q20 : ((nd.kind : Int) == 20) = false := by simp; omega
  have q14 : ((nd.kind : Int) == 14) = false := by simp; omega
  have q16 : ((nd.kind : Int) == 16) = true := by simp [h]
  have q18 : ((nd.kind : Int) == 18) = false := by simp; omega
  have q15 : ((nd.kind : Int) == 15) = false := by simp; omega
  have q19 : ((nd.kind : Int) == 19) = false := by simp; omega
  have HV := Lib.hid (show Hg.typeOf l id = 2 by rw [HT.out, if_neg (by omega), if_pos (by omega)])
  clear h
  go_enter Tryz.func117, Tryz.ntmps117
  go_wp2_with (go_at_call 80; refine T1.out.mono ?_; rintro e w1 ⟨ka, kc, rfl, _, hb1⟩)
  go_ret
  exact ⟨by rw [HV.out]; rfl, hb1.alloc hb1.size _⟩
 ·
  have q13 : ((nd.kind : Int) == 13) = false := by simp; omega
  have q17 : ((nd.kind : Int) == 17) = false := by simp; omega
  have q20 : ((nd.kind : Int) == 20) = false := by simp; omega
  have q14 : ((nd.kind : Int) == 14) = false := by simp; omega
  have q16 : ((nd.kind : Int) == 16) = false := by simp; omega
  have q18 : ((nd.kind : Int) == 18) = true := by simp [h]
  have q15 : ((nd.kind : Int) == 15) = false := by simp; omega
  have q19 : ((nd.kind : Int) == 19) = false := by simp; omega
  by_cases h5 : 5 < nd.num
  ·
   have HV := Lib.hid (show Hg.typeOf l id = 2 by rw [HT.out, if_neg (by omega), if_neg (by omega), if_pos h, if_pos h5])
   have q5 : decide (5 < nd.num) = true := decide_eq_true h5
   clear h h5
   go_enter Tryz.func117, Tryz.ntmps117
   go_wp2_with (go_at_call 80; refine T1.out.mono ?_; rintro e w1 ⟨ka, kc, rfl, _, hb1⟩)
   go_ret
   exact ⟨by rw [HV.out]; rfl, hb1.alloc hb1.size _⟩
  ·
   have HV := Lib.hid (show Hg.typeOf l id = 1 by rw [HT.out, if_neg (by omega), if_neg (by omega), if_pos h, if_neg h5])
   have q5 : decide (5 < nd.num) = false := decide_eq_false h5
   clear h h5
   go_enter Tryz.func117, Tryz.ntmps117
   go_wp2_with (go_at_call 80; refine T1.out.mono ?_; rintro e w1 ⟨ka, kc, rfl, _, hb1⟩)
   go_ret
   exact ⟨by rw [HV.out]; rfl, hb1.alloc hb1.size _⟩
 ·
  have q13 : ((nd.kind : Int) == 13) = false := by simp; omega
  have q17 : ((nd.kind : Int) == 17) = false := by simp; omega
  have q20 : ((nd.kind : Int) == 20) = false := by simp; omega
  have q14 : ((nd.kind : Int) == 14) = false := by simp; omega
  have q16 : ((nd.kind : Int) == 16) = false := by simp; omega
  have q18 : ((nd.kind : Int) == 18) = false := by simp; omega
  have q15 : ((nd.kind : Int) == 15) = true := by simp [h]
  have q19 : ((nd.kind : Int) == 19) = false := by simp; omega
  have HV := Lib.hid (show Hg.typeOf l id = (Hg.nodeOf l nd.ref).type by rw [HT.out, if_neg (by omega), if_neg (by omega), if_neg (by omega), if_pos (by omega)])
  clear h
  go_enter Tryz.func117, Tryz.ntmps117
  go_wp2_with fail
  refine T1.out.mono ?_
  rintro e w1 ⟨ka, kc, rfl, _, hb1⟩
  have hbx : Below w.heap.size w (w1.alloc (nodeBox11 nd ka kc)) := hb1.alloc hb1.size _
  have T2 := TN nd.ref (w1.alloc (nodeBox11 nd ka kc)) (Nat.le_trans hB hbx.size) (hX.out.below hbx hB)
  go_wp2_with (go_at_call 80; refine T2.out.mono ?_; rintro e w2 ⟨ka2, kc2, rfl, _, hb2⟩)
  go_ret
  exact ⟨by rw [HV.out]; rfl, hbx.trans (hb2.mono hbx.size)⟩
 ·
  have q13 : ((nd.kind : Int) == 13) = false := by simp; omega
  have q17 : ((nd.kind : Int) == 17) = false := by simp; omega
  have q20 : ((nd.kind : Int) == 20) = false := by simp; omega
  have q14 : ((nd.kind : Int) == 14) = false := by simp; omega
  have q16 : ((nd.kind : Int) == 16) = false := by simp; omega
  have q18 : ((nd.kind : Int) == 18) = false := by simp; omega
  have q15 : ((nd.kind : Int) == 15) = false := by simp; omega
  have q19 : ((nd.kind : Int) == 19) = true := by simp [h]
  have HV := Lib.hid (show Hg.typeOf l id = (Hg.nodeOf l nd.ref).type by rw [HT.out, if_neg (by omega), if_neg (by omega), if_neg (by omega), if_pos (by omega)])
  clear h
  go_enter Tryz.func117, Tryz.ntmps117
  go_wp2_with fail
  refine T1.out.mono ?_
  rintro e w1 ⟨ka, kc, rfl, _, hb1⟩
  have hbx : Below w.heap.size w (w1.alloc (nodeBox11 nd ka kc)) := hb1.alloc hb1.size _
  have T2 := TN nd.ref (w1.alloc (nodeBox11 nd ka kc)) (Nat.le_trans hB hbx.size) (hX.out.below hbx hB)
  go_wp2_with (go_at_call 80; refine T2.out.mono ?_; rintro e w2 ⟨ka2, kc2, rfl, _, hb2⟩)
  go_ret
  exact ⟨by rw [HV.out]; rfl, hbx.trans (hb2.mono hbx.size)⟩
 ·
  have q13 : ((nd.kind : Int) == 13) = false := by simp; omega
  have q17 : ((nd.kind : Int) == 17) = false := by simp; omega
  have q20 : ((nd.kind : Int) == 20) = false := by simp; omega
  have q14 : ((nd.kind : Int) == 14) = false := by simp; omega
  have q16 : ((nd.kind : Int) == 16) = false := by simp; omega
  have q18 : ((nd.kind : Int) == 18) = false := by simp; omega
  have q15 : ((nd.kind : Int) == 15) = false := by simp; omega
  have q19 : ((nd.kind : Int) == 19) = false := by simp; omega
  have HV := Lib.hid (show Hg.typeOf l id = 0 by rw [HT.out, if_neg (by omega), if_neg (by omega), if_neg (by omega), if_neg (by omega)])
  clear h
  go_enter Tryz.func117, Tryz.ntmps117
  go_wp2_with (go_at_call 80; refine T1.out.mono ?_; rintro e w1 ⟨ka, kc, rfl, _, hb1⟩)
  go_ret
  exact ⟨by rw [HV.out]; rfl, hb1.alloc hb1.size _⟩
def WkAt (w : World) (wb : Nat) (a : Hg.Alls) : Prop := w.heap[wb]? = some (.cells #[.bool a.clash, .bool a.vis.hidden, .bool a.vis.wrong, .int .u64 0, .slice none 0 0, .bool false] 111 (0, 0))
theorem WkAt.cell {w : World} {wb : Nat} {a : Hg.Alls} (h : WkAt w wb a) : w.cell? ⟨wb, 0, none⟩ = some (.bool a.clash) ∧ w.cell? ⟨wb, 1, none⟩ = some (.bool a.vis.hidden) ∧ w.cell? ⟨wb, 2, none⟩ = some (.bool a.vis.wrong) ∧ w.cell? ⟨wb, 3, none⟩ = some (.int .u64 0) ∧
 w.cell? ⟨wb, 4, none⟩ = some (.slice none 0 0) ∧ w.cell? ⟨wb, 5, none⟩ = some (.bool false) ∧ ∀ i, w.frozen? ⟨wb, i, none⟩ = false := by
 have hc := fun i => cell_of_row w wb i _ _ (0, 0) h
 exact ⟨hc 0, hc 1, hc 2, hc 3, hc 4, hc 5, fun i => by unfold WkAt at h; simp [World.frozen?, h]⟩
theorem WkAt.lt {w : World} {wb : Nat} {a : Hg.Alls} (h : WkAt w wb a) : wb < w.heap.size := (Array.getElem?_eq_some_iff.1 h).1
theorem WkAt.below {w w' : World} {wb B : Nat} {a : Hg.Alls} (h : WkAt w wb a) (hb : Below B w w') (hB : w.heap.size ≤ B) : WkAt w' wb a := (hb.block wb (by have := h.lt; omega)).trans h
theorem wk_set {w : World} {b i : Nat} {cs : Array Value} {t : TypeId} (h : w.heap[b]? = some (.cells cs t (0, 0))) (u : Value) :
 (w.setCell ⟨b, i, none⟩ u).heap[b]? = some (.cells (cs.setIfInBounds i u) t (0, 0)) := by
 simp [World.setCell, Array.getElem?_modify, h]
theorem WkAt.wrong {w : World} {wb : Nat} {a : Hg.Alls} (h : WkAt w wb a) : WkAt (w.setCell ⟨wb, 2, none⟩ (.bool true)) wb { a with vis := { a.vis with wrong := true } } := wk_set h _
theorem WkAt.hide {w : World} {wb : Nat} {a : Hg.Alls} (h : WkAt w wb a) : WkAt (w.setCell ⟨wb, 1, none⟩ (.bool true)) wb { a with vis := { a.vis with hidden := true } } := wk_set h _
theorem WkAt.setClash {w : World} {wb : Nat} {a : Hg.Alls} (h : WkAt w wb a) (x : Bool) : WkAt (w.setCell ⟨wb, 0, none⟩ (.bool x)) wb { a with clash := x } := wk_set h _
theorem wk_grown {w w' : World} {wb : Nat} (h : w.grownBy w' (some wb)) (i : Nat) (u : Value) : w.grownBy (w'.setCell ⟨wb, i, none⟩ u) (some wb) :=
 ⟨h.os, h.tape, h.output, by simpa using h.size, fun k hk hne => (Below.heap_setCell w' ⟨wb, i, none⟩ u k (fun e => hne (by rw [e]))).trans (h.block k hk hne)⟩
set_option maxHeartbeats 4000000 in
theorem part11_any (B wb : Nat) (v : Value) (l : List Hg.Row) (n : Hg.Node) (ka : Option Addr) (kc i want : Nat) (al : Hg.Alls) (w : World) (hB : B ≤ w.heap.size) (hx : RowsAt w B v l) (hl : l.length ≤ 1000000000)
 (hk : Sl w B (.slice ka n.kids.length kc) n.kids.length (n.kids.map idV)) (hi : i < n.kids.length) (hn : n.kids.length ≤ 1000000000) (hW : WkAt w wb al) :
 Calls Tryz.prog 116 #[.pointer (some ⟨wb, 0, none⟩), v, ndV n ka kc, .int .i64 (i : Int), .int .u8 (want : Int)] w fun e w' =>
  e = .returned (.tuple #[]) ∧ WkAt w' wb { al with vis := { al.vis with wrong := al.vis.wrong || Hg.partBad l n i want } } ∧ w.grownBy w' (some wb) := by
 have hX := Lib.hid hx
 obtain ⟨a, c, rfl⟩ := hx.form
 have HW := Lib.hid hW
 clear hx hW
 obtain ⟨b, o, rfl, hbB, hc⟩ := Sl.idAt hk hi
 have hpb : Hg.partBad l n i want = decide (Hg.typeOf l n.kids[i] ≠ want) := by unfold Hg.partBad; rw [show n.kids.getD i 0 = n.kids[i] by simp [hi]]
 rw [hpb]
 clear hpb hk
 have hbx : Below w.heap.size w (w.alloc (nodeBox11 n (some ⟨b, o, none⟩) kc)) := (Below.refl _ _).alloc (Nat.le_refl _) _
 have TT := Lib.hid (type11_any B _ l n.kids[i] (w.alloc (nodeBox11 n (some ⟨b, o, none⟩) kc)) (Nat.le_trans hB hbx.size) (hX.out.below hbx hB) hl)
 have hc2 := alloc_cell7 hc (nodeBox11 n (some ⟨b, o, none⟩) kc)
 have hbl : b < w.heap.size := by omega
 generalize n.kids[i] = x at hc hc2 TT
 generalize Hg.typeOf l x = t at TT
 by_cases ht : t = want
 ·
  have q1 : ((t : Int) != (want : Int)) = false := by simp [ht]
  have hd : decide (t ≠ want) = false := by simp [ht]
  rw [hd, Bool.or_false]
  clear ht hd
  go_enter Tryz.func116, Tryz.ntmps116
  go_wp2_with (go_at_call 117; refine TT.out.mono ?_; rintro e w1 ⟨rfl, hb1⟩)
  go_end0
  have h2 := hbx.trans (hb1.mono hbx.size)
  exact ⟨rfl, HW.out.below h2 (Nat.le_refl _), below_grown h2 _⟩
 ·
  have q1 : ((t : Int) != (want : Int)) = true := by simp; omega
  have hd : decide (t ≠ want) = true := by simp [ht]
  rw [hd, Bool.or_true]
  clear ht hd
  go_enter Tryz.func116, Tryz.ntmps116
  go_wp2_with (go_at_call 117; refine TT.out.mono ?_; rintro e w1 ⟨rfl, hb1⟩; have hW1 := HW.out.below (hbx.trans (hb1.mono hbx.size)) (Nat.le_refl _); obtain ⟨_, _, c2, _, _, _, hf⟩ := hW1.cell; have f2 := hf 2; have HW1 := Lib.hid hW1; clear hf hW1)
  go_end0
  exact ⟨rfl, HW1.out.wrong, wk_grown (below_grown (hbx.trans (hb1.mono hbx.size)) _) 2 _⟩
end Go.Proofs.YtihmbbkppkgcmaaGreatDoor
namespace Go.Proofs.YtihmbbkppkgcmaaGreatDoor
open Go.RowKit
def idxI (ids : List Nat) (id : Nat) : Int := match ids.findIdx? (· == id) with | some k => (k : Int) | none => -1
theorem idx_hit (l : List Nat) (id k : Nat) (hk : k < l.length) (h : l[k] = id) (hno : ∀ (j : Nat) (x : Nat), j < k → l[j]? = some x → x ≠ id) : idxI l id = (k : Int) := by
 have : l.findIdx? (· == id) = some k := by
  rw [List.findIdx?_eq_some_iff_getElem]
  exact ⟨hk, by simpa using h, fun j hj => by simpa using hno j l[j] hj (List.getElem?_eq_getElem (by omega))⟩
 simp [idxI, this]
theorem idx_miss (l : List Nat) (id : Nat) (hno : ∀ (j : Nat) (x : Nat), j < l.length → l[j]? = some x → x ≠ id) : idxI l id = -1 := by
 have : l.findIdx? (· == id) = none := by
  rw [List.findIdx?_eq_none_iff]
  intro x hx
  obtain ⟨j, hj, he⟩ := List.mem_iff_getElem.1 hx
  simpa using hno j x hj (by rw [List.getElem?_eq_getElem hj, he])
 simp [idxI, this]
set_option maxHeartbeats 800000 in
set_option maxRecDepth 100000 in
theorem index_any (B : Nat) (v : Value) (ids : List Nat) (id : Nat) (w : World) (hs : Sl w B v ids.length (ids.map idV)) (hl : ids.length ≤ 1000000) :
 Calls Tryz.prog 32 #[v, .int .u64 (id : Int)] w fun e w' => e = .returned (.int .i64 (idxI ids id)) ∧ w = w' := by
 have HS := Lib.hid hs
 obtain ⟨a, c, rfl⟩ := hs.form
 clear hs
 go_enter Tryz.func32, Tryz.ntmps32
 go_wp2
 go_loopw [8] (fun i wr => ∃ k : Nat, k ≤ ids.length ∧ i = .int .i64 k ∧ w = wr ∧ ∀ (j : Nat) (x : Nat), j < k → ids[j]? = some x → x ≠ id) (fun i wr => ids.length - (intOf i).toNat)
 case atStart => exact ⟨0, by omega, rfl, by first | trivial | rfl, fun j r hj => by omega⟩
 case round =>
  obtain ⟨k, hk, rfl, rfl, hno⟩ := hrel
  have HN := Lib.hid hno
  clear hno
  by_cases hlt : k < ids.length
  ·
   obtain ⟨b, o, rfl, _, kc⟩ := HS.out.idAt hlt
   by_cases hid : ids[k] = id
   ·
    have hq : ((id : Int) == (ids[k] : Int)) = true := by simp [hid]
    have HI := Lib.hid hid
    clear hid
    go_wp2
    go_ret
    exact ⟨ret_i64 (idx_hit ids id k hlt HI.out HN.out).symm, rfl⟩
   ·
    have hq : ((id : Int) == (ids[k] : Int)) = false := by simp; omega
    have HI := Lib.hid hid
    clear hid
    go_wp2
    go_roundw
    case rel => exact ⟨k + 1, by omega, by go_num, by first | trivial | rfl, fun j x hj hx => by
     by_cases e : j = k
     ·
      subst e; rw [List.getElem?_eq_getElem hlt] at hx; injection hx with hx; rw [← hx]; exact HI.out
     ·
      exact HN.out j x (by omega) hx⟩
    case measure => simp [intOf]; omega
  ·
   obtain rfl : k = ids.length := by omega
   go_wp2
   go_ret
   exact ⟨ret_i64 (idx_miss ids id HN.out).symm, rfl⟩
def rawR (v : Value) : Option (DataW Value × List MemPlace) := some (.held v, [])
def idTop : Nat := 18446744073709551616
abbrev idL (n : Nat) : Lit := .int .u64 (n : Int)
theorem keyedId : Maps.Keyed Tryz.prog 28 := Maps.int_keyed Tryz.underlying28
theorem idL_wf {n : Nat} (h : n < idTop) : (idL n).wf = true := by
 unfold idTop at h
 have h1 : IntKind.u64.min = 0 := rfl
 have h2 : IntKind.u64.max = 18446744073709551615 := rfl
 simp [Lit.wf, h1, h2]
 omega
theorem keyOf_id {n : Nat} (h : n < idTop) : keyOf Tryz.prog 28 (.int .u64 (n : Int)) = some (idL n) := Maps.keyOf_int_mk Tryz.underlying28 (idL_wf h)
def ArKeyZ (Z : Nat → Prop) (w : World) (D : DataW Value) (id : Nat) : Option Hg.Node → Prop
 | none => Maps.has D (idL id) = false
 | some nd => ∃ ka kc, (∀ z, D.atKey (idL id) z = .held (ndV nd ka kc)) ∧ Sl w w.heap.size (.slice ka nd.kids.length kc) nd.kids.length (nd.kids.map idV) ∧
   ∀ q, (Value.slice ka nd.kids.length kc).ownBlock = some q → Z q
abbrev ArKey := ArKeyZ (fun _ => True)
structure ArMapZ (Z : Nat → Prop) (w : World) (mb c : Nat) (M : Nat → Option Hg.Node) : Prop where
 own : ∃ D, w.ownsMap Tryz.prog 28 rawR mb c D ∧ Maps.size D = c ∧ ∀ id, id < idTop → ArKeyZ Z w D id (M id)
 bd : ∀ id nd, M id = some nd → nd.kids.length ≤ 1000000
theorem ArMapZ.lt {Z : Nat → Prop} {w : World} {mb c : Nat} {M : Nat → Option Hg.Node} (h : ArMapZ Z w mb c M) : mb < w.heap.size := by
 obtain ⟨⟨D, ho, _⟩, _⟩ := h
 exact ho.lt
theorem ArMapZ.below {Z : Nat → Prop} {w w' : World} {mb c B : Nat} {M : Nat → Option Hg.Node} (h : ArMapZ Z w mb c M) (hb : Below B w w') (hB : w.heap.size ≤ B) : ArMapZ Z w' mb c M := by
 have hb' : Below w.heap.size w w' := hb.mono hB
 obtain ⟨⟨D, ho, hc, hk⟩, hbd⟩ := h
 refine ⟨⟨D, ho.kept (below_grown hb' none) (by simp), hc, fun id hid => ?_⟩, hbd⟩
 have hx := hk id hid
 cases hM : M id with
 | none => rw [hM] at hx; exact hx
 | some nd =>
   rw [hM] at hx
   obtain ⟨ka, kc, h1, h2, h3⟩ := hx
   exact ⟨ka, kc, h1, (h2.below hb' (Nat.le_refl _)).more hb'.size, h3⟩
theorem ArMapZ.look {Z : Nat → Prop} {w : World} {mb c : Nat} {M : Nat → Option Hg.Node} (h : ArMapZ Z w mb c M) {id : Nat} (hid : id < idTop) :
 (M id = none → (Instr.lookup 77 (.map (some mb)) (.int .u64 (id : Int)) true).run Tryz.prog w = .ok (.tuple #[ndV Hg.Node.zero none 0, .bool false]) w) ∧
 (∀ nd, M id = some nd → ∃ ka kc, (Instr.lookup 77 (.map (some mb)) (.int .u64 (id : Int)) true).run Tryz.prog w = .ok (.tuple #[ndV nd ka kc, .bool true]) w ∧
  Sl w w.heap.size (.slice ka nd.kids.length kc) nd.kids.length (nd.kids.map idV)) := by
 have hz : (zeroValue 31).run Tryz.prog w = .ok (ndV Hg.Node.zero none 0) w := by kernel_rfl
 obtain ⟨⟨D, ho, hc, hk⟩, hbd⟩ := h
 obtain ⟨v, ps, hrun, hv⟩ := ho.look_ok keyedId Tryz.underlying77 hz (zd := .held (ndV Hg.Node.zero none 0)) (zp := []) rfl (keyOf_id hid)
 have hx := hk id hid
 simp only [rawR, Option.some.injEq, Prod.mk.injEq] at hv
 refine ⟨fun hM => ?_, fun nd hM => ?_⟩
 ·
  rw [hM] at hx
  have hx' : Maps.has D (idL id) = false := hx
  rw [Maps.atKey_of_not_has hx'] at hv
  have e : v = ndV Hg.Node.zero none 0 := by simpa using hv.1
  rw [hrun, hx', e]
 ·
  rw [hM] at hx
  obtain ⟨ka, kc, h1, h2, h3⟩ := hx
  rw [h1] at hv
  have e : v = ndV nd ka kc := by simpa using hv.1
  refine ⟨ka, kc, ?_, h2⟩
  rw [hrun, Maps.has_true_of_atKey h1, e]
structure ArAtZ (Z : Nat → Prop) (w : World) (ab mb c : Nat) (M : Nat → Option Hg.Node) : Prop where
 cell : w.heap[ab]? = some (.cells #[.map (some mb)] 79 (0, 0))
 map : ArMapZ Z w mb c M
abbrev ArAt := ArAtZ (fun _ => True)
theorem ArAtZ.lt {Z : Nat → Prop} {w : World} {ab mb c : Nat} {M : Nat → Option Hg.Node} (h : ArAtZ Z w ab mb c M) : ab < w.heap.size := (Array.getElem?_eq_some_iff.1 h.cell).1
theorem ArAtZ.below {Z : Nat → Prop} {w w' : World} {ab mb c B : Nat} {M : Nat → Option Hg.Node} (h : ArAtZ Z w ab mb c M) (hb : Below B w w') (hB : w.heap.size ≤ B) : ArAtZ Z w' ab mb c M :=
 ⟨(hb.block ab (by have := h.lt; omega)).trans h.cell, h.map.below hb hB⟩
theorem ArMapZ.imp {Z Z' : Nat → Prop} {w : World} {mb c : Nat} {M : Nat → Option Hg.Node} (h : ArMapZ Z w mb c M) (hz : ∀ q, Z q → Z' q) : ArMapZ Z' w mb c M := by
 obtain ⟨⟨D, ho, hc, hk⟩, hbd⟩ := h
 refine ⟨⟨D, ho, hc, fun id hid => ?_⟩, hbd⟩
 have hx := hk id hid
 cases hM : M id with
 | none => rw [hM] at hx; exact hx
 | some nd =>
   rw [hM] at hx
   obtain ⟨ka, kc, h1, h2, h3⟩ := hx
   exact ⟨ka, kc, h1, h2, fun q hq => hz q (h3 q hq)⟩
theorem ArAtZ.imp {Z Z' : Nat → Prop} {w : World} {ab mb c : Nat} {M : Nat → Option Hg.Node} (h : ArAtZ Z w ab mb c M) (hz : ∀ q, Z q → Z' q) : ArAtZ Z' w ab mb c M := ⟨h.cell, h.map.imp hz⟩
theorem ArAtZ.weak {Z : Nat → Prop} {w : World} {ab mb c : Nat} {M : Nat → Option Hg.Node} (h : ArAtZ Z w ab mb c M) : ArAt w ab mb c M := h.imp fun _ _ => trivial
theorem ArAtZ.read {Z : Nat → Prop} {w : World} {ab mb c : Nat} {M : Nat → Option Hg.Node} (h : ArAtZ Z w ab mb c M) : w.cell? ⟨ab, 0, none⟩ = some (.map (some mb)) ∧ w.frozen? ⟨ab, 0, none⟩ = false := by
 refine ⟨cell_of_row w ab 0 _ _ (0, 0) h.cell, by simp [World.frozen?, h.cell]⟩
theorem ArMapZ.look1 {Z : Nat → Prop} {w : World} {mb c : Nat} {M : Nat → Option Hg.Node} (h : ArMapZ Z w mb c M) {id : Nat} (hid : id < idTop) :
 ∃ ka kc, (Instr.lookup 77 (.map (some mb)) (.int .u64 (id : Int)) true).run Tryz.prog w = .ok (.tuple #[ndV ((M id).getD Hg.Node.zero) ka kc, .bool (M id).isSome]) w ∧
   Sl w w.heap.size (.slice ka ((M id).getD Hg.Node.zero).kids.length kc) ((M id).getD Hg.Node.zero).kids.length (((M id).getD Hg.Node.zero).kids.map idV) := by
 obtain ⟨h1, h2⟩ := h.look hid
 cases hM : M id with
 | none => exact ⟨none, 0, h1 hM, Sl.nil _ _⟩
 | some nd => exact h2 nd hM
theorem ArMapZ.len {Z : Nat → Prop} {w : World} {mb c : Nat} {M : Nat → Option Hg.Node} (h : ArMapZ Z w mb c M) (id : Nat) : ((M id).getD Hg.Node.zero).kids.length ≤ 1000000 := by
 cases hM : M id with
 | none => simp [Hg.Node.zero]
 | some nd => exact h.bd id nd hM
theorem set6_ne {w1 : World} {B g : Nat} {v : Value} {n : Nat} {xs : List Value} (h : Sl w1 B v n xs) (hne : v.ownBlock ≠ some g) (u0 u1 u2 u3 u4 u5 : Value) :
 Sl ((((((w1.setCell ⟨g, 0, none⟩ u0).setCell ⟨g, 1, none⟩ u1).setCell ⟨g, 2, none⟩ u2).setCell ⟨g, 3, none⟩ u3).setCell ⟨g, 4, none⟩ u4).setCell ⟨g, 5, none⟩ u5) B v n xs :=
 sl_set_ne (p := ⟨g, 5, none⟩) (sl_set_ne (p := ⟨g, 4, none⟩) (sl_set_ne (p := ⟨g, 3, none⟩) (sl_set_ne (p := ⟨g, 2, none⟩) (sl_set_ne (p := ⟨g, 1, none⟩) (sl_set_ne (p := ⟨g, 0, none⟩) h hne _) hne _) hne _) hne _) hne _) hne _
def GetRes (w : World) (o : Option Hg.Node) (e : Ending) (w' : World) : Prop :=
 ∃ ka kc, e = .returned (.tuple #[ndV (o.getD Hg.Node.zero) ka kc, .bool o.isSome]) ∧ Sl w' w'.heap.size (.slice ka (o.getD Hg.Node.zero).kids.length kc) (o.getD Hg.Node.zero).kids.length ((o.getD Hg.Node.zero).kids.map idV) ∧ Below w.heap.size w w'
def GetRes1 (w : World) (nd : Hg.Node) (s : Bool) (e : Ending) (w' : World) : Prop :=
 ∃ ka kc, e = .returned (.tuple #[ndV nd ka kc, .bool s]) ∧ Sl w' w'.heap.size (.slice ka nd.kids.length kc) nd.kids.length (nd.kids.map idV) ∧ Below w.heap.size w w'
set_option maxHeartbeats 4000000 in
set_option maxRecDepth 100000 in
theorem get_any (ab mb c : Nat) (M : Nat → Option Hg.Node) (id : Nat) (w : World) (hA : ArAt w ab mb c M) (hid : id < idTop) :
 Calls Tryz.prog 15 #[.pointer (some ⟨ab, 0, none⟩), .int .u64 (id : Int)] w (GetRes w (M id)) := by
 obtain ⟨c0, f0⟩ := hA.read
 have hlt := hA.lt
 have hb0 : ∀ z, Below w.heap.size w (w.alloc (.cells z 31)) := fun z => (Below.refl _ _).alloc (Nat.le_refl _) _
 have hlen := hA.map.len id
 obtain ⟨ka, kc, hlk, hks⟩ := (hA.below (hb0 #[.int .u8 0, .string ⟨#[]⟩, .int .i64 0, .int .u8 0, .int .u64 0, .slice none 0 0]) (Nat.le_refl _)).map.look1 hid
 refine Calls.mono (R := GetRes1 w ((M id).getD Hg.Node.zero) (M id).isSome) ?_ (fun e w' h => h)
 generalize (M id).getD Hg.Node.zero = nd at hlk hks hlen ⊢
 generalize (M id).isSome = s at hlk ⊢
 have HS := Lib.hid hks
 clear hA hid hb0 hks
 go_enter Tryz.func15, Tryz.ntmps15
 go_wp2_with fail
 refine (whole_any _ nd ka kc _ (by simp) (HS.out.alloc (Nat.le_refl _) _) hlen).mono ?_
 rintro e w1 ⟨ka1, kc1, rfl, hs1, hb1, hq1⟩
 obtain ⟨hh1, hh2, hsz, hbb⟩ := two_blocks hb1
 have HS1 := Lib.hid hs1
 have HQ1 := Lib.hid (show (Value.slice ka1 nd.kids.length kc1).ownBlock ≠ some w.heap.size from fun e => by have := hq1 _ e; simp at this; omega)
 have c2 := fun i => cell_of_row w1 w.heap.size i _ _ (0, 0) hh1
 have z0 := c2 0; have z1 := c2 1; have z2 := c2 2; have z3 := c2 3; have z4 := c2 4; have z5 := c2 5
 simp at z0 z1 z2 z3 z4 z5
 have f2 : ∀ i, w1.frozen? ⟨w.heap.size, i, none⟩ = false := fun i => by simp [World.frozen?, hh1]
 clear hs1 hb1 hh1 hh2 c2 hq1 hlk
 go_wp2
 exact bodyPost_ret (v := .tuple #[ndV nd ka1 kc1, .bool s]) (by simp [results, Tryz.results15, go_sem, z0, z1, z2, z3, z4, z5, f2]) rfl
  ⟨ka1, kc1, rfl, (set6_ne HS1.out HQ1.out _ _ _ _ _ _).more (by simp), set6_below hbb (Nat.le_refl _) _ _ _ _ _ _⟩
end Go.Proofs.YtihmbbkppkgcmaaGreatDoor
namespace Go.Proofs.YtihmbbkppkgcmaaGreatDoor
open Go.RowKit
theorem twice_hit (xs : List (List UInt8)) (i m : Nat) (hi : i < xs.length) (hm : m < i) (h : xs[i] = xs[m]'(by omega)) : Hg.twice xs = true := by
 unfold Hg.twice
 rw [List.any_eq_true]
 refine ⟨i, List.mem_range.2 hi, ?_⟩
 unfold Hg.inL
 rw [List.any_eq_true]
 refine ⟨xs[m]'(by omega), ?_, ?_⟩
 ·
  rw [List.mem_iff_getElem]
  exact ⟨m, by simp; omega, by simp⟩
 ·
  simp [hi, h]
theorem twice_miss (xs : List (List UInt8)) (h : ∀ i m, (hi : i < xs.length) → (hm : m < i) → xs[i] ≠ xs[m]'(by omega)) : Hg.twice xs = false := by
 unfold Hg.twice
 rw [List.any_eq_false]
 intro i hi hc
 have hi := List.mem_range.1 hi
 unfold Hg.inL at hc
 rw [List.any_eq_true] at hc
 obtain ⟨x, hx, he⟩ := hc
 obtain ⟨m, hm, rfl⟩ := List.mem_iff_getElem.1 hx
 have hm2 : m < i := by simp at hm; omega
 refine h i m hi hm2 ?_
 have := beq_iff_eq.1 he
 simp [hi] at this
 exact this.symm
set_option maxHeartbeats 2000000 in
theorem twice11_any (B : Nat) (v : Value) (xs : List (List UInt8)) (w : World) (hB : B ≤ w.heap.size) (hx : Sl w B v xs.length (xs.map strV)) (hl : xs.length ≤ 1000000000) :
 Calls Tryz.prog 81 #[v] w fun e w' => e = .returned (.bool (Hg.twice xs)) ∧ Below w.heap.size w w' := by
 obtain ⟨a, c, rfl⟩ := hx.form
 have HX := Lib.hid hx
 clear hx
 go_enter Tryz.func81, Tryz.ntmps81
 go_wp2
 go_loopw [7] (fun p wr => ∃ k : Nat, k ≤ xs.length ∧ p = .int .i64 k ∧ (∀ i m, i < k → (hi : i < xs.length) → (hm : m < i) → xs[i] ≠ xs[m]'(by omega)) ∧ Below w.heap.size w wr) (fun p _ => xs.length - (intOf p).toNat)
 case atStart => exact ⟨0, by omega, rfl, fun i m h => by omega, Below.refl _ _⟩
 case round =>
  obtain ⟨k, hk, rfl, hno, hb⟩ := hrel
  have HN := Lib.hid hno
  clear hno
  by_cases hlt : k < xs.length
  ·
   obtain ⟨wo, rfl⟩ : ∃ wo : World, wo = wr := ⟨_, rfl⟩
   obtain ⟨b, o, rfl, hbB, hck⟩ := HX.out.strAt hlt
   go_wp2
   go_loopw [4] (fun p wr => ∃ m : Nat, m ≤ k ∧ p = .int .i64 m ∧ (∀ j, (hj : j < m) → (hjk : j < k) → xs[k] ≠ xs[j]'(by omega)) ∧ Below w.heap.size w wr) (fun p _ => k - (intOf p).toNat)
   case atStart => exact ⟨0, by omega, rfl, fun j hj => by omega, hb⟩
   case round =>
    obtain ⟨m, hm, rfl, hnm, hb2⟩ := hrel
    have HM := Lib.hid hnm
    clear hnm
    by_cases hmk : m < k
    ·
     have hml : m < xs.length := by omega
     obtain ⟨b', o', e0, _, hcm⟩ := (HX.out.below hb2 hB).strAt hml
     obtain ⟨b'', o'', e1, _, hck2⟩ := (HX.out.below hb2 hB).strAt hlt
     injection e0 with e0
     injection e0 with e2 e3 _
     subst e2; subst e3
     injection e1 with e1
     injection e1 with e2 e3 _
     subst e2; subst e3
     have q1 : (0 : Int) ≤ (k : Int) := by omega
     have q2 : (k : Int) < (xs.length : Int) := by omega
     have q3 : (0 : Int) ≤ (m : Int) := by omega
     have q4 : (m : Int) < (xs.length : Int) := by omega
     by_cases he : xs[k] = xs[m]
     ·
      have hfin := Lib.hid (twice_hit xs k m hlt hmk he)
      have hq : (xs[k] == xs[m]) = true := by simp [he]
      clear he hck
      go_upto_region 7 with fail
      go_quiet (fail)
      go_wp2
      go_ret
      exact ⟨ret_bool hfin.out.symm, below_drewN hb2 _⟩
     ·
      have hq : (xs[k] == xs[m]) = false := by simp [he]
      have HE := Lib.hid he
      clear he hck
      go_upto_region 7 with fail
      go_quiet (fail)
      go_wp2
      go_roundw
      case rel => exact ⟨m + 1, by omega, by go_num, fun j hj hjk => by
       by_cases e : j = m
       ·
        subst e; exact HE.out
       ·
        exact HM.out j (by omega) hjk, below_drewN hb2 _⟩
      case measure => simp [intOf]; omega
    ·
     obtain rfl : m = k := by omega
     go_wp2
     go_roundw
     case rel => exact ⟨m + 1, by omega, by go_num, fun i j hi hil hj => by
      by_cases e : i = m
      ·
       subst e; exact HM.out j hj hj
      ·
       exact HN.out i j (by omega) hil hj, hb2⟩
     case measure => simp [intOf]; omega
  ·
   obtain rfl : k = xs.length := by omega
   have hfin := Lib.hid (twice_miss xs fun i m hi hm => HN.out i m hi hi hm)
   go_wp2
   go_ret
   exact ⟨ret_bool hfin.out.symm, hb⟩
@[reducible] def u8V (n : Nat) : Value := .int .u8 (n : Int)
theorem u8Info : (Tryz.prog.info? 5).map (fun i => (i.zero, i.size, i.bytes)) = some (some (.int .u8 0), 1, 1) := by kernel_rfl
def parGo (l : List Hg.Row) : List Nat → List Nat → List Nat
 | [], out => out
 | k :: ks, out => parGo l ks (if (Hg.nodeOf l k).kind = 4 then out ++ [(Hg.nodeOf l k).type] else out)
theorem parGo_eq (l : List Hg.Row) : ∀ (ks out : List Nat), parGo l ks out = out ++ ((ks.filter (fun k => Hg.kindOf l k == 4)).map (fun k => (Hg.nodeOf l k).type))
 | [], out => by simp [parGo]
 | k :: ks, out => by
   rw [parGo, parGo_eq l ks, List.filter_cons]
   unfold Hg.kindOf
   by_cases h : (Hg.nodeOf l k).kind = 4
   ·
    simp [h]
   ·
    simp [h]
set_option maxHeartbeats 4000000 in
set_option maxRecDepth 100000 in
theorem params11_any (B : Nat) (v : Value) (l : List Hg.Row) (f : Nat) (w : World) (hB : B ≤ w.heap.size) (hx : RowsAt w B v l) (hl : l.length ≤ 1000000000) (hkn : (Hg.nodeOf l f).kids.length ≤ 100000000) :
 Calls Tryz.prog 85 #[v, .int .u64 (f : Int)] w fun e w' => (∃ a c, e = .returned (.slice a (Hg.paramsOf l f).length c) ∧ Sl w' w'.heap.size (.slice a (Hg.paramsOf l f).length c) (Hg.paramsOf l f).length ((Hg.paramsOf l f).map u8V)) ∧ Below w.heap.size w w' := by
 obtain ⟨j0, hj, hj0, hj1, hj2⟩ := info_parts u8Info
 have hX := Lib.hid hx
 obtain ⟨a, c, rfl⟩ := hx.form
 clear hx
 have TN := fun x W h1 h2 => Lib.hid (node11_any B (.slice a l.length c) l x W h1 h2 hl)
 have T1 := TN f w hB hX.out
 have hp : parGo l (Hg.nodeOf l f).kids [] = Hg.paramsOf l f := by rw [parGo_eq]; rfl
 have HP := Lib.hid hp
 clear hp
 generalize Hg.paramsOf l f = r at HP
 generalize Hg.nodeOf l f = nd at HP T1 hkn
 go_enter Tryz.func85, Tryz.ntmps85
 go_wp2_with (go_at_call 80; refine T1.out.mono ?_; rintro e w1 ⟨ka, kc, rfl, hkid, hb1⟩; have HK := Lib.hid hkid; clear hkid)
 have hI : Below w1.heap.size w1 w1 := Below.refl _ _
 go_loopw [5, 13] (fun p q wr => ∃ (m : Nat) (out : List Nat), q = .int .i64 m ∧ m ≤ nd.kids.length ∧ out.length ≤ m ∧ wr.ownsRow w1.heap.size 5 1 p out.length (out.map u8V) ∧ parGo l (nd.kids.drop m) out = r ∧ Below w.heap.size w wr ∧ Below w1.heap.size w1 wr) (fun _ q _ => nd.kids.length - (intOf q).toNat)
 case atStart => exact ⟨0, [], rfl, Nat.zero_le _, Nat.le_refl _, World.ownsRow_nil _ _ _ _, HP.out, hb1, hI⟩
 case round =>
  obtain ⟨m, out, rfl, hm, hom, hown, hg, hbw, hbr⟩ := hrel
  have HO := Lib.hid hown
  have HG := Lib.hid hg
  clear hown hg HP hI
  have hBW : B ≤ wr.heap.size := Nat.le_trans hB hbw.size
  by_cases hlt : m < nd.kids.length
  ·
   obtain ⟨b3, o3, rfl, _, kc3⟩ := (HK.out.below hbr (Nat.le_trans hB hb1.size)).idAt hlt
   have hstep : parGo l (nd.kids[m] :: nd.kids.drop (m + 1)) out = r := by rw [← List.drop_eq_getElem_cons hlt]; exact HG.out
   rw [parGo] at hstep
   generalize nd.kids[m] = x at kc3 hstep
   have T2 := TN x wr hBW (hX.out.below hbw hB)
   have T3 := fun W h1 h2 => TN x W h1 h2
   generalize Hg.nodeOf l x = nx at hstep T2 T3
   by_cases h4 : nx.kind = 4
   ·
    rw [if_pos h4] at hstep
    have HS := Lib.hid hstep
    have q4 : ((nx.kind : Int) == 4) = true := by simp [h4]
    clear hstep h4 HG
    have hsz := hbr.size
    go_wp2_with fail
    refine T2.out.mono ?_
    rintro e w2 ⟨kx, cx, rfl, _, hb2⟩
    have hbw2 := hbw.trans (hb2.mono hbw.size)
    have hbr2 := hbr.trans (hb2.mono hbr.size)
    go_wp2_with fail
    refine (T3 w2 (Nat.le_trans hB hbw2.size) (hX.out.below hbw2 hB)).out.mono ?_
    rintro e w3 ⟨kx3, cx3, rfl, _, hb3⟩
    have hbw3 := hbw2.trans (hb3.mono hbw2.size)
    have hbr3 := hbr2.trans (hb3.mono hbr2.size)
    have hsz3 := hbr3.size
    have HO3 := Lib.hid (own_below7 (own_below7 HO.out hb2 (Nat.le_refl _)) hb3 (Nat.le_refl _))
    go_wp2_with (at_builtin; refine wpList_append_own_at _ rfl (.tmp 22) (.tmp 27) _ rfl w1.heap.size 5 j0 _ 1 1 Tryz.underlying75 hj hj0 hj1 hj2 rfl (by decide) _ _ _ rfl (HO3.out.alloc _) ⟨_, 0, none⟩ 1 1 [u8V nx.type] rfl rfl (cells_new _ _ _) ?_ ?_ ?_ ?_ ?_)
    ·
     intro u hu; simp only [List.mem_singleton] at hu; subst hu; rfl
    ·
     unfold maxLen; omega
    ·
     omega
    ·
     simp; omega
    intro v4 W4 own4 g4 _ at4
    have hbr4 : Below w1.heap.size w1 W4 := (hbr3.alloc hsz3 (.cells #[u8V nx.type] 5)).trans ⟨g4.os, g4.tape, g4.output, g4.size, fun q hq => g4.block q (by simp; omega) (fun e => by have := (HO3.out.lt q e.symm).1; omega)⟩
    have hbw4 : Below w.heap.size w W4 := hb1.trans (hbr4.mono hb1.size)
    have own5 : W4.ownsRow w1.heap.size 5 1 v4 (out ++ [nx.type]).length ((out ++ [nx.type]).map u8V) := by simpa using own4
    have OW := Lib.hid own5
    clear own4 own5 g4 at4
    go_wp2
    go_roundw
    case rel => exact ⟨m + 1, out ++ [nx.type], by go_num, by omega, by simp; omega, OW.out, HS.out, hbw4, hbr4⟩
    case measure => simp [intOf]; omega
   ·
    rw [if_neg h4] at hstep
    have HS := Lib.hid hstep
    have q4 : ((nx.kind : Int) == 4) = false := by simp; omega
    clear hstep h4 HG
    go_wp2_with (go_at_call 80; refine T2.out.mono ?_; rintro e w2 ⟨kx, cx, rfl, _, hb2⟩)
    go_roundw
    case rel => exact ⟨m + 1, out, by go_num, by omega, by omega, own_below7 HO.out hb2 (Nat.le_refl _), HS.out, hbw.trans (hb2.mono hbw.size), hbr.trans (hb2.mono hbr.size)⟩
    case measure => simp [intOf]; omega
  ·
   obtain rfl : m = nd.kids.length := by omega
   have he : out = r := by have h1 := HG.out; rw [List.drop_length, parGo] at h1; exact h1
   have HE := Lib.hid he
   clear he HG
   go_wp2
   go_ret
   have hs := Sl.of_own HO.out
   obtain ⟨a2, c2, hv⟩ := hs.form
   subst hv
   rw [← HE.out]
   exact ⟨⟨a2, c2, rfl, hs⟩, hbw⟩
end Go.Proofs.YtihmbbkppkgcmaaGreatDoor
