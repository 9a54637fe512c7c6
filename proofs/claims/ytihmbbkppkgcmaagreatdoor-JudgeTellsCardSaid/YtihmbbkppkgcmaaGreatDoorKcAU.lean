/-
  Part of a proof: contracts of functions that the claim reaches, and plain lemmas.
-/
import Derived.Test.YtihmbbkppkgcmaaGreatDoorKcAT
import Derived.Deep.CutRange
import Derived.Maps.AppendAt
set_option linter.all false
namespace Go.Proofs.YtihmbbkppkgcmaaGreatDoor
open Go.RowKit
set_option maxHeartbeats 4000000 in
set_option maxRecDepth 100000 in
theorem func11_any (B : Nat) (v : Value) (l : List Hg.Row) (mod name : List UInt8) (w : World) (hB : B ≤ w.heap.size) (hx : RowsAt w B v l) (hl : l.length ≤ 1000000000) (hkn : ∀ x, (Hg.nodeOf l x).kids.length ≤ 100000000) :
 Calls Tryz.prog 84 #[v, strV mod, strV name] w fun e w' => e = .returned (.int .u64 (Hg.funcOf l mod name (Hg.nodeOf l 1).kids : Int)) ∧ Below w.heap.size w w' := by
 have hX := Lib.hid hx
 obtain ⟨a, c, rfl⟩ := hx.form
 clear hx
 have TN := fun x W h1 h2 => Lib.hid (node11_any B (.slice a l.length c) l x W h1 h2 hl)
 have T1 := TN 1 w hB hX.out
 have hk1 := hkn 1
 obtain ⟨r, hr⟩ : ∃ r, Hg.funcOf l mod name (Hg.nodeOf l 1).kids = r := ⟨_, rfl⟩
 rw [hr]
 have HP := Lib.hid hr
 clear hr
 generalize Hg.nodeOf l 1 = nd at HP T1 hk1
 go_enter Tryz.func84, Tryz.ntmps84
 go_wp2_with (go_at_call 80; refine T1.out.mono ?_; rintro e w1 ⟨ka, kc, rfl, hkid, hb1⟩; have HK := Lib.hid hkid; clear hkid)
 go_loopw [15] (fun q wr => ∃ m : Nat, q = .int .i64 m ∧ m ≤ nd.kids.length ∧ Hg.funcOf l mod name (nd.kids.drop m) = r ∧ Below w.heap.size w wr ∧ Below w1.heap.size w1 wr) (fun q _ => nd.kids.length - (intOf q).toNat)
 case atStart => exact ⟨0, rfl, Nat.zero_le _, HP.out, hb1, Below.refl _ _⟩
 case round =>
  obtain ⟨m, rfl, hm, hg, hbw, hbr⟩ := hrel
  have HG := Lib.hid hg
  clear hg HP
  have hBW : B ≤ wr.heap.size := Nat.le_trans hB hbw.size
  by_cases hlt : m < nd.kids.length
  ·
   obtain ⟨b3, o3, rfl, _, kc3⟩ := (HK.out.below hbr (Nat.le_trans hB hb1.size)).idAt hlt
   have hstep : Hg.funcOf l mod name (nd.kids[m] :: nd.kids.drop (m + 1)) = r := by rw [← List.drop_eq_getElem_cons hlt]; exact HG.out
   rw [Hg.funcOf] at hstep
   generalize nd.kids[m] = x at kc3 hstep
   have T2 := TN x wr hBW (hX.out.below hbw hB)
   have T3 := fun W h1 h2 => TN x W h1 h2
   have hkx := hkn x
   have hin : ∀ ks, Hg.funcIn l x mod name ks = Hg.funcIn l x mod name ks := fun _ => rfl
   generalize hnx : Hg.nodeOf l x = nx at hstep T2 T3 hkx
   have HS := Lib.hid hstep
   have HNX := Lib.hid hnx
   clear hstep hnx hin HG
   go_wp2_with (go_at_call 80; refine T2.out.mono ?_; rintro e w2 ⟨kx, cx, rfl, hkx2, hb2⟩; have HK2 := Lib.hid hkx2; clear hkx2)
   obtain ⟨wo, rfl⟩ : ∃ wo : World, wo = wr := ⟨_, rfl⟩
   have hbw2 := hbw.trans (hb2.mono hbw.size)
   have hbr2 := hbr.trans (hb2.mono hbr.size)
   go_loopw [24] (fun q wr => ∃ j : Nat, q = .int .i64 j ∧ j ≤ nx.kids.length ∧ (match Hg.funcIn l x mod name (nx.kids.drop j) with | some f => f | none => Hg.funcOf l mod name (nd.kids.drop (m + 1))) = r ∧ Below w2.heap.size w2 wr) (fun q _ => nx.kids.length - (intOf q).toNat)
   case atStart => exact ⟨0, rfl, Nat.zero_le _, HS.out, Below.refl _ _⟩
   case round =>
    obtain ⟨j, rfl, hj, hg, hbq⟩ := hrel
    have HG := Lib.hid hg
    clear hg HS
    have hbw3 := hbw2.trans (hbq.mono hbw2.size)
    have hbr3 := hbr2.trans (hbq.mono hbr2.size)
    have hBQ : B ≤ wr.heap.size := Nat.le_trans hB hbw3.size
    by_cases hlt2 : j < nx.kids.length
    ·
     obtain ⟨b4, o4, rfl, _, kc4⟩ := (HK2.out.below hbq (Nat.le_trans hBW hb2.size)).idAt hlt2
     have hstep : (match Hg.funcIn l x mod name (nx.kids[j] :: nx.kids.drop (j + 1)) with | some f => f | none => Hg.funcOf l mod name (nd.kids.drop (m + 1))) = r := by rw [← List.drop_eq_getElem_cons hlt2]; exact HG.out
     rw [Hg.funcIn, HNX.out] at hstep
     generalize nx.kids[j] = y at kc4 hstep
     have T4 := T3 wr hBQ (hX.out.below hbw3 hB)
     have T5 := fun W h1 h2 => TN y W h1 h2
     generalize Hg.nodeOf l y = ny at hstep T5
     by_cases h1 : nx.name = mod
     ·
      have q1 : (nx.name == mod) = true := by simp [h1]
      have hq : ∀ W : World, Below wr.heap.size wr W → B ≤ W.heap.size ∧ RowsAt W B (.slice a l.length c) l := fun W h => ⟨Nat.le_trans hBQ h.size, (hX.out.below hbw3 hB).below h hBQ⟩
      by_cases h2 : ny.name = name
      ·
       have q2 : (ny.name == name) = true := by simp [h2]
       rw [if_pos ⟨h1, h2⟩] at hstep
       have HS := Lib.hid (show y = r from hstep)
       clear hstep HG
       go_wp2_with fail
       refine T4.out.mono ?_
       rintro e w4 ⟨kx4, cx4, rfl, _, hb4⟩
       go_wp2_with fail
       refine (T5 w4 (hq w4 hb4).1 (hq w4 hb4).2).out.mono ?_
       rintro e w5 ⟨kx5, cx5, rfl, _, hb5⟩
       go_wp2
       go_ret
       exact ⟨by rw [HS.out]; rfl, (hbw3.trans (hb4.mono hbw3.size)).trans (hb5.mono (hbw3.trans (hb4.mono hbw3.size)).size)⟩
      ·
       have q2 : (ny.name == name) = false := by simp [h2]
       rw [if_neg (by simp [h2])] at hstep
       have HS := Lib.hid hstep
       clear hstep HG
       go_wp2_with fail
       refine T4.out.mono ?_
       rintro e w4 ⟨kx4, cx4, rfl, _, hb4⟩
       go_wp2_with fail
       refine (T5 w4 (hq w4 hb4).1 (hq w4 hb4).2).out.mono ?_
       rintro e w5 ⟨kx5, cx5, rfl, _, hb5⟩
       go_wp2
       go_roundw
       case rel => exact ⟨j + 1, by go_num, by omega, HS.out, (hbq.trans (hb4.mono hbq.size)).trans (hb5.mono (hbq.trans (hb4.mono hbq.size)).size)⟩
       case measure => simp [intOf]; omega
     ·
      have q1 : (nx.name == mod) = false := by simp [h1]
      rw [if_neg (by simp [h1])] at hstep
      have HS := Lib.hid hstep
      clear hstep HG
      go_wp2_with (go_at_call 80; refine T4.out.mono ?_; rintro e w4 ⟨kx4, cx4, rfl, _, hb4⟩)
      go_roundw
      case rel => exact ⟨j + 1, by go_num, by omega, HS.out, hbq.trans (hb4.mono hbq.size)⟩
      case measure => simp [intOf]; omega
    ·
     obtain rfl : j = nx.kids.length := by omega
     have he : Hg.funcOf l mod name (nd.kids.drop (m + 1)) = r := by have h1 := HG.out; rw [List.drop_length, Hg.funcIn] at h1; exact h1
     have HE := Lib.hid he
     clear he HG
     go_wp2
     go_roundw
     case rel => exact ⟨m + 1, by go_num, by omega, HE.out, hbw3, hbr3⟩
     case measure => simp [intOf]; omega
  ·
   obtain rfl : m = nd.kids.length := by omega
   have he : r = 0 := by have h1 := HG.out; rw [List.drop_length, Hg.funcOf] at h1; exact h1.symm
   have HE := Lib.hid he
   clear he HG
   go_wp2
   go_ret
   exact ⟨by rw [HE.out]; rfl, hbw⟩
theorem mainOf_eq (l : List Hg.Row) : Hg.mainOf l = (if Hg.funcOf l Hg.wMain Hg.wMain (Hg.nodeOf l 1).kids = 0 ∨ (Hg.nodeOf l (Hg.funcOf l Hg.wMain Hg.wMain (Hg.nodeOf l 1).kids)).type ≠ 1 ∨ 0 < (Hg.paramsOf l (Hg.funcOf l Hg.wMain Hg.wMain (Hg.nodeOf l 1).kids)).length then 0 else Hg.funcOf l Hg.wMain Hg.wMain (Hg.nodeOf l 1).kids) := rfl
set_option maxHeartbeats 4000000 in
set_option maxRecDepth 100000 in
theorem main11_any (B : Nat) (v : Value) (l : List Hg.Row) (w : World) (hB : B ≤ w.heap.size) (hx : RowsAt w B v l) (hl : l.length ≤ 1000000000) (hkn : ∀ x, (Hg.nodeOf l x).kids.length ≤ 100000000) :
 Calls Tryz.prog 46 #[v] w fun e w' => e = .returned (.int .u64 (Hg.mainOf l : Int)) ∧ Below w.heap.size w w' := by
 have hX := Lib.hid hx
 have TF := Lib.hid (func11_any B v l Hg.wMain Hg.wMain w hB hx hl hkn)
 obtain ⟨a, c, rfl⟩ := hx.form
 clear hx
 have TN := fun x W h1 h2 => Lib.hid (node11_any B (.slice a l.length c) l x W h1 h2 hl)
 have TP := fun x W h1 h2 => Lib.hid (params11_any B (.slice a l.length c) l x W h1 h2 hl (hkn x))
 rw [mainOf_eq]
 generalize Hg.funcOf l Hg.wMain Hg.wMain (Hg.nodeOf l 1).kids = f at TF ⊢
 go_enter Tryz.func46, Tryz.ntmps46
 by_cases h0 : f = 0
 ·
  have q0 : ((f : Int) == 0) = true := by simp [h0]
  rw [if_pos (.inl h0)]
  clear h0
  go_wp2_with (go_at_call 84; refine TF.out.mono ?_; rintro e w1 ⟨rfl, hb1⟩)
  go_ret
  exact ⟨rfl, hb1⟩
 have q0 : ((f : Int) == 0) = false := by simp; omega
 by_cases h1 : (Hg.nodeOf l f).type = 1
 rotate_left
 ·
  have q1 : (((Hg.nodeOf l f).type : Int) != 1) = true := by simp; omega
  rw [if_pos (.inr (.inl h1))]
  clear h0 h1
  go_wp2_with (go_at_call 84; refine TF.out.mono ?_; rintro e w1 ⟨rfl, hb1⟩)
  refine (TN f w1 (Nat.le_trans hB hb1.size) (hX.out.below hb1 hB)).out.mono ?_
  rintro e w2 ⟨kx, cx, rfl, _, hb2⟩
  go_wp2
  go_ret
  exact ⟨rfl, hb1.trans (hb2.mono hb1.size)⟩
 have q1 : (((Hg.nodeOf l f).type : Int) != 1) = false := by simp [h1]
 have hpl : (Hg.paramsOf l f).length ≤ 100000000 := by
  unfold Hg.paramsOf
  rw [List.length_map]
  exact Nat.le_trans (List.length_filter_le _ _) (hkn f)
 by_cases h2 : 0 < (Hg.paramsOf l f).length
 ·
  rw [if_pos (.inr (.inr h2))]
  clear h0 h1
  go_wp2_with (go_at_call 84; refine TF.out.mono ?_; rintro e w1 ⟨rfl, hb1⟩)
  refine (TN f w1 (Nat.le_trans hB hb1.size) (hX.out.below hb1 hB)).out.mono ?_
  rintro e w2 ⟨kx, cx, rfl, _, hb2⟩
  have hbw := hb1.trans (hb2.mono hb1.size)
  go_wp2_with fail
  refine (TP f w2 (Nat.le_trans hB hbw.size) (hX.out.below hbw hB)).out.mono ?_
  rintro e w3 ⟨⟨ap, cp, rfl, _⟩, hb3⟩
  go_wp2
  go_ret
  exact ⟨rfl, hbw.trans (hb3.mono hbw.size)⟩
 ·
  rw [if_neg (by rintro (h | h | h) <;> contradiction)]
  clear h0 h1
  have h2 : (Hg.paramsOf l f).length = 0 := by omega
  go_wp2_with (go_at_call 84; refine TF.out.mono ?_; rintro e w1 ⟨rfl, hb1⟩)
  refine (TN f w1 (Nat.le_trans hB hb1.size) (hX.out.below hb1 hB)).out.mono ?_
  rintro e w2 ⟨kx, cx, rfl, _, hb2⟩
  have hbw := hb1.trans (hb2.mono hb1.size)
  go_wp2_with fail
  refine (TP f w2 (Nat.le_trans hB hbw.size) (hX.out.below hbw hB)).out.mono ?_
  rintro e w3 ⟨⟨ap, cp, rfl, _⟩, hb3⟩
  go_wp2
  go_ret
  exact ⟨rfl, hbw.trans (hb3.mono hbw.size)⟩
end Go.Proofs.YtihmbbkppkgcmaaGreatDoor
namespace Go.Proofs.YtihmbbkppkgcmaaGreatDoor
open Go.RowKit
theorem strInfo11 : (Tryz.prog.info? 9).map (fun i => (i.zero, i.size, i.bytes)) = some (some (.string ⟨#[]⟩), 1, 16) := by kernel_rfl
def namGo (l : List Hg.Row) : List Nat → List (List UInt8) → List (List UInt8)
 | [], out => out
 | k :: ks, out => namGo l ks (if (Hg.nodeOf l k).kind = 4 ∨ (Hg.nodeOf l k).kind = 6 then out ++ [(Hg.nodeOf l k).name] else out)
theorem namGo_eq (l : List Hg.Row) : ∀ (ks : List Nat) (out : List (List UInt8)), namGo l ks out = out ++ ((ks.filter (fun k => Hg.kindOf l k == 4 || Hg.kindOf l k == 6)).map (fun k => (Hg.nodeOf l k).name))
 | [], out => by simp [namGo]
 | k :: ks, out => by
   rw [namGo, namGo_eq l ks, List.filter_cons]
   unfold Hg.kindOf
   by_cases h : (Hg.nodeOf l k).kind = 4 ∨ (Hg.nodeOf l k).kind = 6
   ·
    rw [if_pos h]
    have : ((Hg.nodeOf l k).kind == 4 || (Hg.nodeOf l k).kind == 6) = true := by simpa using h
    rw [if_pos this]; simp
   ·
    rw [if_neg h]
    have : ¬ ((Hg.nodeOf l k).kind == 4 || (Hg.nodeOf l k).kind == 6) = true := by simpa using h
    rw [if_neg this]
set_option maxHeartbeats 4000000 in
set_option maxRecDepth 100000 in
theorem names11_any (B : Nat) (v : Value) (l : List Hg.Row) (f : Nat) (w : World) (hB : B ≤ w.heap.size) (hx : RowsAt w B v l) (hl : l.length ≤ 1000000000) (hks : Hg.kidsSum l ≤ 100000000) :
 Calls Tryz.prog 82 #[v, .int .u64 (f : Int)] w fun e w' => (∃ a c, e = .returned (.slice a (Hg.namesOf l f).length c) ∧ Sl w' w'.heap.size (.slice a (Hg.namesOf l f).length c) (Hg.namesOf l f).length ((Hg.namesOf l f).map strV)) ∧ Below w.heap.size w w' := by
 obtain ⟨j0, hj, hj0, hj1, hj2⟩ := info_parts strInfo11
 have hX := Lib.hid hx
 obtain ⟨a, c, rfl⟩ := hx.form
 clear hx
 have TN := fun x W h1 h2 => Lib.hid (node11_any B (.slice a l.length c) l x W h1 h2 hl)
 have TW := Lib.hid (walk7_any B (.slice a l.length c) l f w hB hX.out hl hks)
 have hwl := Hg.walk_len l f
 have hp : namGo l (Hg.walk l f) [] = Hg.namesOf l f := by rw [namGo_eq]; rfl
 have HP := Lib.hid hp
 clear hp
 generalize Hg.namesOf l f = r at HP
 generalize Hg.walk l f = ws at HP TW hwl
 go_enter Tryz.func82, Tryz.ntmps82
 go_wp2_with (go_at_call 112; refine TW.out.mono ?_; rintro e w1 ⟨⟨ka, kc, rfl, hkid⟩, hb1⟩; have HK := Lib.hid hkid; clear hkid)
 have hI : Below w1.heap.size w1 w1 := Below.refl _ _
 go_loopw [5, 13] (fun p q wr => ∃ (m : Nat) (out : List (List UInt8)), q = .int .i64 m ∧ m ≤ ws.length ∧ out.length ≤ m ∧ wr.ownsRow w1.heap.size 9 1 p out.length (out.map strV) ∧ namGo l (ws.drop m) out = r ∧ Below w.heap.size w wr ∧ Below w1.heap.size w1 wr) (fun _ q _ => ws.length - (intOf q).toNat)
 case atStart => exact ⟨0, [], rfl, Nat.zero_le _, Nat.le_refl _, World.ownsRow_nil _ _ _ _, HP.out, hb1, hI⟩
 case round =>
  obtain ⟨m, out, rfl, hm, hom, hown, hg, hbw, hbr⟩ := hrel
  have HO := Lib.hid hown
  have HG := Lib.hid hg
  clear hown hg HP hI
  have hBW : B ≤ wr.heap.size := Nat.le_trans hB hbw.size
  by_cases hlt : m < ws.length
  ·
   obtain ⟨b3, o3, rfl, _, kc3⟩ := (HK.out.below hbr (Nat.le_refl _)).idAt hlt
   have hstep : namGo l (ws[m] :: ws.drop (m + 1)) out = r := by rw [← List.drop_eq_getElem_cons hlt]; exact HG.out
   rw [namGo] at hstep
   generalize ws[m] = x at kc3 hstep
   have T2 := TN x wr hBW (hX.out.below hbw hB)
   generalize Hg.nodeOf l x = nx at hstep T2
   have hsz := hbr.size
   have hcs : (nx.kind = 4 ∧ ((nx.kind : Int) == 4) = true) ∨ (nx.kind = 6 ∧ ((nx.kind : Int) == 4) = false ∧ ((nx.kind : Int) == 6) = true) ∨ (¬ (nx.kind = 4 ∨ nx.kind = 6) ∧ ((nx.kind : Int) == 4) = false ∧ ((nx.kind : Int) == 6) = false) := by
    by_cases h4 : nx.kind = 4
    ·
     exact .inl ⟨h4, by simp [h4]⟩
    ·
     by_cases h6 : nx.kind = 6
     ·
      exact .inr (.inl ⟨h6, by simp [h6], by simp [h6]⟩)
     ·
      exact .inr (.inr ⟨by omega, by simp; omega, by simp; omega⟩)
   rcases hcs with ⟨h4, q4⟩ | ⟨h4, q4, q6⟩ | ⟨h4, q4, q6⟩
   rotate_right
   ·
    rw [if_neg h4] at hstep
    have HS := Lib.hid hstep
    clear hstep h4 HG
    go_wp2_with (go_at_call 80; refine T2.out.mono ?_; rintro e w2 ⟨kx, cx, rfl, _, hb2⟩)
    have hbw2 := (hbw.trans (hb2.mono hbw.size)).alloc (by have := hbw.size; have := hb2.size; omega) (nodeBox11 nx kx cx)
    have hbr2 := (hbr.trans (hb2.mono hbr.size)).alloc (by have := hb2.size; omega) (nodeBox11 nx kx cx)
    go_roundw
    case rel => exact ⟨m + 1, out, by go_num, by omega, by omega, (own_below7 HO.out hb2 (Nat.le_refl _)).alloc _, HS.out, hbw2, hbr2⟩
    case measure => simp [intOf]; omega
   all_goals
    rw [if_pos (by omega)] at hstep
    have HS := Lib.hid hstep
    clear hstep h4 HG
    go_wp2_with fail
    refine T2.out.mono ?_
    rintro e w2 ⟨kx, cx, rfl, _, hb2⟩
    have hbw2 := (hbw.trans (hb2.mono hbw.size)).alloc (by have := hbw.size; have := hb2.size; omega) (nodeBox11 nx kx cx)
    have hbr2 := (hbr.trans (hb2.mono hbr.size)).alloc (by have := hb2.size; omega) (nodeBox11 nx kx cx)
    go_upto_region 7 with fail
    have hsz3 := hbr2.size
    have hO3 := (own_below7 HO.out hb2 (Nat.le_refl _)).alloc (nodeBox11 nx kx cx)
    have k1 : (w2.alloc (nodeBox11 nx kx cx)).cell? ⟨w2.heap.size, 1, none⟩ = some (strV nx.name) := cell_of_row (w2.alloc (nodeBox11 nx kx cx)) w2.heap.size 1 _ _ (0, 0) (heap_alloc_new w2 _)
    generalize World.alloc w2 _ = w3 at hbw2 hbr2 hsz3 hO3 k1 ⊢
    have HO3 := Lib.hid hO3
    clear hO3
    go_wp2_with (at_builtin; refine wpList_append_own_at _ rfl (.tmp 28) (.tmp 31) _ rfl w1.heap.size 9 j0 _ 1 16 Tryz.underlying58 hj hj0 hj1 hj2 rfl (by decide) _ _ _ rfl (HO3.out.alloc _) ⟨_, 0, none⟩ 1 1 [strV nx.name] rfl rfl (cells_new _ _ _) ?_ ?_ ?_ ?_ ?_)
    ·
     intro u hu; simp only [List.mem_singleton] at hu; subst hu; rfl
    ·
     unfold maxLen; omega
    ·
     omega
    ·
     simp; omega
    intro v4 W4 own4 g4 _ at4
    have hbr4 : Below w1.heap.size w1 W4 := (hbr2.alloc hsz3 (.cells #[strV nx.name] 9)).trans ⟨g4.os, g4.tape, g4.output, g4.size, fun q hq => g4.block q (by simp; omega) (fun e => by have := (HO3.out.lt q e.symm).1; omega)⟩
    have hbw4 : Below w.heap.size w W4 := hb1.trans (hbr4.mono hb1.size)
    have own5 : W4.ownsRow w1.heap.size 9 1 v4 (out ++ [nx.name]).length ((out ++ [nx.name]).map strV) := by simpa using own4
    have OW := Lib.hid own5
    clear own4 own5 g4 at4
    go_wp2
    go_roundw
    case rel => exact ⟨m + 1, out ++ [nx.name], by go_num, by omega, by simp; omega, OW.out, HS.out, hbw4, hbr4⟩
    case measure => simp [intOf]; omega
  ·
   obtain rfl : m = ws.length := by omega
   have he : out = r := by have h1 := HG.out; rw [List.drop_length, namGo] at h1; exact h1
   have HE := Lib.hid he
   clear he HG
   go_wp2
   go_ret
   have hs := Sl.of_own HO.out
   obtain ⟨a2, c2, hv⟩ := hs.form
   subst hv
   rw [← HE.out]
   exact ⟨⟨a2, c2, rfl, hs⟩, hbw⟩
end Go.Proofs.YtihmbbkppkgcmaaGreatDoor
namespace Go.Proofs.YtihmbbkppkgcmaaGreatDoor
open Go.RowKit
theorem below_ungrown {B wb : Nat} {w w' : World} (hB : B ≤ wb) (h : w.grownBy w' (some wb)) (hw : wb < w.heap.size) : Below B w w' :=
 ⟨h.os, h.tape, h.output, h.size, fun k hk => h.block k (by omega) (fun e => by injection e; omega)⟩
def zAl : Hg.Alls := ⟨false, ⟨false, false⟩⟩
@[reducible] def zBox : Obj := .cells #[.bool false, .bool false, .bool false, .int .u64 0, .slice none 0 0, .bool false] 111
theorem zBox_two (w : World) : WkAt ((w.alloc zBox).alloc zBox) (w.heap.size + 1) zAl ∧ WkAt ((w.alloc zBox).alloc zBox) w.heap.size zAl ∧ Below w.heap.size w ((w.alloc zBox).alloc zBox) ∧ ((w.alloc zBox).alloc zBox).heap.size = w.heap.size + 2 := by
 have hb1 : Below w.heap.size w (w.alloc zBox) := (Below.refl _ _).alloc (Nat.le_refl _) _
 have hs : (w.alloc zBox).heap.size = w.heap.size + 1 := by simp
 have h1 := heap_alloc_new (w.alloc zBox) zBox
 rw [hs] at h1
 have h2 : WkAt (w.alloc zBox) w.heap.size zAl := heap_alloc_new w zBox
 exact ⟨h1, h2.below ((Below.refl (w.alloc zBox).heap.size _).alloc (Nat.le_refl _) _) (Nat.le_refl _), hb1.alloc (by omega) _, by simp⟩
theorem WkAt.grown {w w' : World} {rb wb : Nat} {al : Hg.Alls} (h : WkAt w rb al) (hg : w.grownBy w' (some wb)) (hne : rb ≠ wb) : WkAt w' rb al :=
 (hg.block rb h.lt (fun e => by injection e with e; exact hne e)).trans h
set_option maxHeartbeats 8000000 in
set_option maxRecDepth 100000 in
theorem all11_of (B : Nat) (v : Value) (l : List Hg.Row) (w : World) (hB : B ≤ w.heap.size) (hx : RowsAt w B v l) (hl : l.length ≤ 1000000000) (hks : Hg.kidsSum l ≤ 100000000) (hkn : ∀ x, (Hg.nodeOf l x).kids.length ≤ 4000000) (hz : ∀ x, ∀ k ∈ (Hg.nodeOf l x).kids, k ≠ 0)
 (hV : ∀ (id wb : Nat) (al : Hg.Alls) (vi : Hg.Vis) (W : World), B ≤ wb → id ≠ 0 → RowsAt W B v l → WkAt W wb al → Hg.visitF l id 201 al.vis id [] = some vi →
  Calls Tryz.prog 83 #[.pointer (some ⟨wb, 0, none⟩), v, .int .u64 (id : Int), .slice none 0 0, .int .u64 (id : Int)] W fun e w' => e = .returned (.tuple #[]) ∧ WkAt w' wb { al with vis := vi } ∧ W.grownBy w' (some wb))
 (al : Hg.Alls) (hal : Hg.allOf l = some al) :
 Calls Tryz.prog 45 #[v, .int .u64 0] w fun e w' => e = .returned (.agg #[.bool al.clash, .bool al.vis.hidden, .bool al.vis.wrong, .int .u64 0, .slice none 0 0, .bool false]) ∧ Below w.heap.size w w' := by
 obtain ⟨j0, hj, hj0, hj1, hj2⟩ := info_parts strInfo11
 have hX := Lib.hid hx
 have HV := Lib.hid hV
 obtain ⟨a, c, rfl⟩ := hx.form
 clear hx hV
 have TN := fun x W h1 h2 => Lib.hid (node11_any B (.slice a l.length c) l x W h1 h2 hl)
 unfold Hg.allOf at hal
 have hk1 := hkn 1
 have hz1 := Lib.hid (hz 1)
 generalize h1 : Hg.nodeOf l 1 = nd at hal hk1 hz1
 have TN1 := fun W h1 h2 => TN 1 W h1 h2
 rw [h1] at TN1
 clear h1
 have HAL := Lib.hid hal
 clear hal
 go_enter Tryz.func45, Tryz.ntmps45
 go_upto_region 3 with fail
 obtain ⟨hW0, hR0, hb0, hs0⟩ := zBox_two w
 generalize World.alloc (World.alloc w _) _ = w2 at hW0 hR0 hb0 hs0 ⊢
 have HR0 := Lib.hid hR0
 have HW0 := Lib.hid hW0
 generalize hwb : w.heap.size + 1 = wb at HW0 ⊢
 have hg0 : w2.grownBy w2 (some wb) := ⟨rfl, rfl, rfl, Nat.le_refl _, fun _ _ _ => rfl⟩
 have hB2 : B ≤ w2.heap.size := Nat.le_trans hB hb0.size
 clear hW0 hR0
 go_wp2_with fail
 refine (TN1 w2 hB2 (hX.out.below hb0 hB)).out.mono ?_
 rintro e w3 ⟨ka, kc, rfl, hkid, hb3⟩
 have HK := Lib.hid hkid
 clear hkid
 have hg3 := below_grown hb3 (some wb)
 go_wp2_with fail
 go_loopw [6, 18] (fun mv q wr => ∃ (m : Nat) (mods : List (List UInt8)) (al' : Hg.Alls), q = .int .i64 m ∧ m ≤ nd.kids.length ∧ mods.length = m ∧ wr.ownsRow w3.heap.size 9 1 mv mods.length (mods.map strV) ∧ WkAt wr wb al' ∧ w2.grownBy wr (some wb) ∧ w3.grownBy wr (some wb) ∧ (match Hg.allMods l (nd.kids.drop m) mods al' with | none => none | some (mods, a) => some (⟨a.clash || Hg.twice mods, a.vis⟩ : Hg.Alls)) = some al) (fun _ q _ => nd.kids.length - (intOf q).toNat)
 case atStart => exact ⟨0, [], zAl, rfl, Nat.zero_le _, rfl, World.ownsRow_nil _ _ _ _, HW0.out.below hb3 (Nat.le_refl _), hg3, ⟨rfl, rfl, rfl, Nat.le_refl _, fun _ _ _ => rfl⟩, HAL.out⟩
 case round =>
  obtain ⟨m, mods, al', rfl, hm, hml, hown, hWr, hgr, hgr3, hgo⟩ := hrel
  have HO := Lib.hid hown
  have HWr := Lib.hid hWr
  have HGO := Lib.hid hgo
  clear hown hWr hgo HAL
  have hbr : Below B w2 wr := below_ungrown (by omega) hgr HW0.out.lt
  by_cases hlt : m < nd.kids.length
  ·
   have hbr3 : Below B w3 wr := below_ungrown (by omega) hgr3 (by have := HW0.out.lt; have := hb3.size; omega)
   obtain ⟨b3, o3, rfl, _, kc3⟩ := (HK.out.below hbr3 (Nat.le_refl _)).idAt hlt
   have hstep := HGO.out
   rw [List.drop_eq_getElem_cons hlt, Hg.allMods] at hstep
   generalize nd.kids[m] = x at kc3 hstep
   have hBr : B ≤ wr.heap.size := Nat.le_trans hB2 hbr.size
   have HXr := Lib.hid ((hX.out.below hb0 hB).below hbr (Nat.le_refl _))
   have TX := fun W h1 h2 => TN x W h1 h2
   have hkx := hkn x
   have hzx := Lib.hid (hz x)
   generalize Hg.nodeOf l x = nx at TX hstep hkx hzx
   cases hf : Hg.allFuncs l nx.kids [] al' with
   | none => rw [hf] at hstep; cases hstep
   | some fa =>
     obtain ⟨funcs, a2⟩ := fa
     rw [hf] at hstep
     dsimp only at hstep
     have HST := Lib.hid hstep
     have HF := Lib.hid hf
     clear hstep hf HGO
     have hwr : wb < wr.heap.size := HWr.out.lt
     have h2r := hgr3.size
     go_wp2_with fail
     refine (TX wr hBr HXr.out).out.mono ?_
     rintro e w4 ⟨kx, cx, rfl, _, hb4⟩
     have HO4 := Lib.hid (own_below7 HO.out hb4 (Nat.le_refl _))
     have hsz4 := hb4.size
     go_wp2_with (at_builtin; refine wpList_append_own_at _ rfl (.tmp 22) (.tmp 27) _ rfl w3.heap.size 9 j0 _ 1 16 Tryz.underlying58 hj hj0 hj1 hj2 rfl (by decide) _ _ _ rfl (HO4.out.alloc _) ⟨_, 0, none⟩ 1 1 [strV nx.name] rfl rfl (cells_new _ _ _) ?_ ?_ ?_ ?_ ?_)
     ·
      intro u hu; simp only [List.mem_singleton] at hu; subst hu; rfl
     ·
      unfold maxLen; omega
     ·
      omega
     ·
      simp; omega
     intro v5 W5 own5 g5 _ at5
     have hbr5 : Below w3.heap.size wr W5 := ((hb4.mono h2r).alloc (by omega) (.cells #[strV nx.name] 9)).trans ⟨g5.os, g5.tape, g5.output, g5.size, fun q hq => g5.block q (by simp; omega) (fun e => by have := (HO4.out.lt q e.symm).1; omega)⟩
     have own6 : W5.ownsRow w3.heap.size 9 1 v5 (mods ++ [nx.name]).length ((mods ++ [nx.name]).map strV) := by rw [List.map_append, List.length_append, hml]; exact own5
     have OM := Lib.hid own6
     have hs5 := hbr5.size
     have hw3s : wb < w3.heap.size := by have := HW0.out.lt; have := hb3.size; omega
     have hW5 : WkAt W5 wb al' := (hbr5.block wb hw3s).trans HWr.out
     have HW5 := Lib.hid hW5
     have hg35 : w3.grownBy W5 (some wb) := ⟨hbr5.os.trans hgr3.os, hbr5.tape.trans hgr3.tape, hbr5.output.trans hgr3.output, Nat.le_trans hgr3.size hbr5.size, fun q hq hne => (hbr5.block q hq).trans (hgr3.block q hq hne)⟩
     clear own5 own6 g5 at5 hW5
     have hb25 : Below B w3 W5 := below_ungrown (by omega) hg35 hw3s
     have hB5 : B ≤ W5.heap.size := by omega
     have HX5 := Lib.hid ((hX.out.below (hb0.trans (hb3.mono hb0.size)) hB).below hb25 (Nat.le_refl _))
     obtain ⟨wo, rfl⟩ : ∃ wo : World, wo = wr := ⟨_, rfl⟩
     go_wp2_with fail
     refine (TX W5 hB5 HX5.out).out.mono ?_
     rintro e w6 ⟨ky, cy, rfl, hky, hb6⟩
     have HKY := Lib.hid hky
     clear hky
     go_wp2_with fail
     go_loopw [9, 34] (fun fv q wr => ∃ (j : Nat) (fs : List (List UInt8)) (a1 : Hg.Alls), q = .int .i64 j ∧ j ≤ nx.kids.length ∧ fs.length = j ∧ wr.ownsRow w6.heap.size 9 1 fv fs.length (fs.map strV) ∧ WkAt wr wb a1 ∧ w6.grownBy wr (some wb) ∧ Hg.allFuncs l (nx.kids.drop j) fs a1 = some (funcs, a2)) (fun _ q _ => nx.kids.length - (intOf q).toNat)
     case atStart => exact ⟨0, [], al', rfl, Nat.zero_le _, rfl, World.ownsRow_nil _ _ _ _, HW5.out.below hb6 (Nat.le_refl _), ⟨rfl, rfl, rfl, Nat.le_refl _, fun _ _ _ => rfl⟩, HF.out⟩
     case round =>
      obtain ⟨j, fs, a1, rfl, hjl, hfl, hownf, hWf, hgf, hgof⟩ := hrel
      have HOF := Lib.hid hownf
      have HWF := Lib.hid hWf
      have HGF := Lib.hid hgof
      clear hownf hWf hgof HF
      have hg36 : w3.grownBy wr (some wb) := (hg35.trans (below_grown hb6 _)).trans hgf
      by_cases hlt2 : j < nx.kids.length
      ·
       have hw6 : wb < w6.heap.size := by have := hb6.size; omega
       have hb6r : Below B w6 wr := below_ungrown (by omega) hgf hw6
       obtain ⟨b4, o4, rfl, _, kc4⟩ := (HKY.out.below hb6r (Nat.le_refl _)).idAt hlt2
       have hy0 : nx.kids[j] ≠ 0 := hzx.out _ (List.getElem_mem hlt2)
       have hstf := HGF.out
       rw [List.drop_eq_getElem_cons hlt2, Hg.allFuncs] at hstf
       generalize nx.kids[j] = y at kc4 hstf hy0
       cases hvy : Hg.visitF l y 201 a1.vis y [] with
       | none => rw [hvy] at hstf; cases hstf
       | some v2 =>
         rw [hvy] at hstf
         dsimp only at hstf
         have hBr : B ≤ wr.heap.size := Nat.le_trans (Nat.le_trans hB5 hb6.size) hgf.size
         have HXr := Lib.hid ((HX5.out.below hb6 hB5).below hb6r (Nat.le_refl _))
         have TY := Lib.hid (TN y wr hBr HXr.out).out
         have HSTF := Lib.hid hstf
         have HVY := Lib.hid hvy
         clear hstf hvy HGF
         have h6r := hgf.size
         go_wp2_with fail
         refine TY.out.mono ?_
         rintro e w7 ⟨kz, cz, rfl, _, hb7⟩
         have HO7 := Lib.hid (own_below7 HOF.out hb7 (Nat.le_refl _))
         have hsz7 := hb7.size
         go_wp2_with (at_builtin; refine wpList_append_own_at _ rfl (.tmp 38) (.tmp 43) _ rfl w6.heap.size 9 j0 _ 1 16 Tryz.underlying58 hj hj0 hj1 hj2 rfl (by decide) _ _ _ rfl (HO7.out.alloc _) ⟨_, 0, none⟩ 1 1 [strV (Hg.nodeOf l y).name] rfl rfl (cells_new _ _ _) ?_ ?_ ?_ ?_ ?_)
         ·
          intro u hu; simp only [List.mem_singleton] at hu; subst hu; rfl
         ·
          unfold maxLen; omega
         ·
          omega
         ·
          simp; omega
         intro v8 W8 own8 g8 _ at8
         have hbr8 : Below w6.heap.size wr W8 := ((hb7.mono h6r).alloc (by omega) (.cells #[strV (Hg.nodeOf l y).name] 9)).trans ⟨g8.os, g8.tape, g8.output, g8.size, fun q hq => g8.block q (by simp; omega) (fun e => by have := (HO7.out.lt q e.symm).1; omega)⟩
         have own9 : W8.ownsRow w6.heap.size 9 1 v8 (fs ++ [(Hg.nodeOf l y).name]).length ((fs ++ [(Hg.nodeOf l y).name]).map strV) := by rw [List.map_append, List.length_append, hfl]; exact own8
         have OF := Lib.hid own9
         have hs8 := hbr8.size
         have hW8 : WkAt W8 wb a1 := (hbr8.block wb hw6).trans HWF.out
         have HW8 := Lib.hid hW8
         have hg68 : w6.grownBy W8 (some wb) := ⟨hbr8.os.trans hgf.os, hbr8.tape.trans hgf.tape, hbr8.output.trans hgf.output, Nat.le_trans hgf.size hbr8.size, fun q hq hne => (hbr8.block q hq).trans (hgf.block q hq hne)⟩
         clear own8 own9 g8 at8 hW8
         have hb68 : Below B w6 W8 := below_ungrown (by omega) hg68 hw6
         have HX8 := Lib.hid ((HX5.out.below hb6 hB5).below hb68 (Nat.le_refl _))
         have hB8 : B ≤ W8.heap.size := by omega
         go_upto_region 12 with fail
         obtain ⟨c0, _, _, _, _, _, hfz⟩ := HW8.out.cell
         have f0 := hfz 0
         clear hfz
         obtain ⟨cl, vis⟩ := a1
         cases cl with
         | true =>
           dsimp only at c0
           go_upto_region 13 with fail
           have hW9 := HW8.out.setClash true
           have hg69 := wk_grown hg68 0 (.bool true)
           have hk89 : W8.grownBy (W8.setCell ⟨wb, 0, none⟩ (.bool true)) (some wb) := wk_grown ⟨rfl, rfl, rfl, Nat.le_refl _, fun _ _ _ => rfl⟩ 0 _
           generalize World.setCell W8 _ _ = w9 at hW9 hg69 hk89 ⊢
           have HW9 := Lib.hid hW9
           clear c0 f0 hW9
           have hb69 : Below B w6 w9 := below_ungrown (by omega) hg69 hw6
           have TV := Lib.hid (HV.out y wb ⟨true, vis⟩ v2 w9 (by omega) hy0 ((HX5.out.below hb6 hB5).below hb69 (Nat.le_refl _)) HW9.out HVY.out)
           go_wp2_with fail
           refine TV.out.mono ?_
           rintro e w10 ⟨rfl, hW10, hg10⟩
           go_wp2
           go_roundw
           case rel => exact ⟨j + 1, fs ++ [(Hg.nodeOf l y).name], ⟨true, v2⟩, by go_num, by omega, by simp; omega, OF.out.kept (hk89.trans hg10) (.inr fun e => by have := (OF.out.lt wb e).1; omega), hW10, hg69.trans hg10, HSTF.out⟩
           case measure => simp [intOf]; omega
         | false =>
           dsimp only at c0
           have hnl : (Hg.namesOf l y).length ≤ 1000000000 := by
            unfold Hg.namesOf
            rw [List.length_map]
            exact Nat.le_trans (List.length_filter_le _ _) (Nat.le_trans (Hg.walk_len l y) hl)
           have TM := Lib.hid (names11_any B (.slice a l.length c) l y W8 hB8 HX8.out hl hks)
           have hst := HSTF.out
           dsimp only at hst
           obtain ⟨ns, hns⟩ : ∃ ns, Hg.namesOf l y = ns := ⟨_, rfl⟩
           rw [hns] at TM hnl hst
           obtain ⟨tw, htw⟩ : ∃ tw, Hg.twice ns = tw := ⟨_, rfl⟩
           have HTW := Lib.hid htw
           rw [htw] at hst
           have HSTF := Lib.hid hst
           clear hst hns htw
           go_wp2_with fail
           refine TM.out.mono ?_
           rintro e w9a ⟨⟨na, nc, rfl, hnsl⟩, hb9a⟩
           have TT := Lib.hid (twice11_any w9a.heap.size _ ns w9a (Nat.le_refl _) hnsl hnl)
           rw [HTW.out] at TT
           clear hnsl
           go_wp2_with fail
           refine TT.out.mono ?_
           rintro e w9b ⟨rfl, hb9b⟩
           have hbab := hb9a.trans (hb9b.mono hb9a.size)
           have HW8b := Lib.hid (HW8.out.below hbab (Nat.le_refl _))
           have hg68b := hg68.trans (below_grown hbab (some wb))
           clear c0 f0
           obtain ⟨c0, _, _, _, _, _, hfz⟩ := HW8b.out.cell
           have f0 := hfz 0
           clear hfz
           go_upto_region 13 with fail
           have hW9 := HW8b.out.setClash tw
           have hg69 := wk_grown hg68b 0 (.bool tw)
           have hk89 : W8.grownBy (w9b.setCell ⟨wb, 0, none⟩ (.bool tw)) (some wb) := wk_grown (below_grown hbab _) 0 _
           generalize World.setCell w9b _ _ = w9 at hW9 hg69 hk89 ⊢
           have HW9 := Lib.hid hW9
           clear c0 f0 hW9
           have hb69 : Below B w6 w9 := below_ungrown (by omega) hg69 hw6
           have TV := Lib.hid (HV.out y wb ⟨tw, vis⟩ v2 w9 (by omega) hy0 ((HX5.out.below hb6 hB5).below hb69 (Nat.le_refl _)) HW9.out HVY.out)
           go_wp2_with fail
           refine TV.out.mono ?_
           rintro e w10 ⟨rfl, hW10, hg10⟩
           go_wp2
           go_roundw
           case rel => exact ⟨j + 1, fs ++ [(Hg.nodeOf l y).name], ⟨tw, v2⟩, by go_num, by omega, by simp; omega, OF.out.kept (hk89.trans hg10) (.inr fun e => by have := (OF.out.lt wb e).1; omega), hW10, hg69.trans hg10, by have h := HSTF.out; rw [Bool.false_or] at h; exact h⟩
           case measure => simp [intOf]; omega
      ·
       obtain rfl : j = nx.kids.length := by omega
       have he := HGF.out
       rw [List.drop_length, Hg.allFuncs] at he
       injection he with he
       injection he with e1 e2
       subst e1
       subst e2
       obtain ⟨c0, _, _, _, _, _, hfz⟩ := HWF.out.cell
       have f0 := hfz 0
       clear hfz HGF
       have hg5r : W5.grownBy wr (some wb) := (below_grown hb6 _).trans hgf
       have hg2r : w2.grownBy wr (some wb) := hg3.trans hg36
       obtain ⟨cl, vis⟩ := a1
       cases cl with
       | true =>
         dsimp only at c0
         go_wp2
         go_roundw
         case rel => exact ⟨m + 1, mods ++ [nx.name], ⟨true, vis⟩, by go_num, by omega, by simp; omega, OM.out.kept (wk_grown hg5r 0 _) (.inr fun e => by have := (OM.out.lt wb e).1; omega), HWF.out.setClash true, wk_grown hg2r 0 _, wk_grown hg36 0 _, HST.out⟩
         case measure => simp [intOf]; omega
       | false =>
         dsimp only at c0
         have TT := Lib.hid (twice11_any wr.heap.size _ fs wr (Nat.le_refl _) (Sl.of_own HOF.out) (by omega))
         obtain ⟨tw, htw⟩ : ∃ tw, Hg.twice fs = tw := ⟨_, rfl⟩
         have hst := HST.out
         dsimp only at hst
         rw [htw] at TT hst
         have HST := Lib.hid hst
         clear htw hst
         go_wp2_with fail
         refine TT.out.mono ?_
         rintro e w7 ⟨rfl, hb7⟩
         have HW7 := Lib.hid (HWF.out.below hb7 (Nat.le_refl _))
         have hb7g := below_grown hb7 (some wb)
         clear c0 f0
         obtain ⟨c0, _, _, _, _, _, hfz⟩ := HW7.out.cell
         have f0 := hfz 0
         clear hfz
         go_wp2
         go_roundw
         case rel => exact ⟨m + 1, mods ++ [nx.name], ⟨tw, vis⟩, by go_num, by omega, by simp; omega, OM.out.kept (wk_grown (hg5r.trans hb7g) 0 _) (.inr fun e => by have := (OM.out.lt wb e).1; omega), HW7.out.setClash tw, wk_grown (hg2r.trans hb7g) 0 _, wk_grown (hg36.trans hb7g) 0 _, by simpa using HST.out⟩
         case measure => simp [intOf]; omega
  ·
   obtain rfl : m = nd.kids.length := by omega
   have he := HGO.out
   rw [List.drop_length, Hg.allMods] at he
   dsimp only at he
   injection he with he
   subst he
   obtain ⟨c0, c1, c2, c3, c4, c5, hf⟩ := HWr.out.cell
   obtain ⟨d0, d1, d2, d3, d4, d5, hg⟩ := (HR0.out.grown hgr (by omega)).cell
   have f0 := hf 0
   have g0 := hg 0
   have g1 := hg 1
   have g2 := hg 2
   have g3 := hg 3
   have g4 := hg 4
   have g5 := hg 5
   clear hf hg
   obtain ⟨cl, vis⟩ := al'
   cases cl with
   | true =>
     dsimp only at c0
     go_upto_region 18 with fail
     have hW5 := HWr.out.setClash true
     have hg5' := wk_grown hgr 0 (.bool true)
     generalize World.setCell wr _ _ = w5 at hW5 hg5' ⊢
     clear c0 c1 c2 c3 c4 c5 d0 d1 d2 d3 d4 d5 f0 g0 g1 g2 g3 g4 g5
     obtain ⟨c0, c1, c2, c3, c4, c5, hf⟩ := hW5.cell
     obtain ⟨d0, d1, d2, d3, d4, d5, hg⟩ := (HR0.out.grown hg5' (by omega)).cell
     have g0 := hg 0
     have g1 := hg 1
     have g2 := hg 2
     have g3 := hg 3
     have g4 := hg 4
     have g5 := hg 5
     clear hf hg
     have hgw5 : Below w.heap.size w w5 := hb0.trans (below_ungrown (by omega) hg5' (by omega))
     go_wp2
     exact bodyPost_ret (v := .agg #[.bool true, .bool vis.hidden, .bool vis.wrong, .int .u64 0, .slice none 0 0, .bool false]) (by simp [results, Tryz.results45, go_sem, d0, d1, d2, d3, d4, d5]) rfl ⟨rfl, set6_below hgw5 (Nat.le_refl _) _ _ _ _ _ _⟩
   | false =>
     dsimp only at c0
     have TT := Lib.hid (twice11_any wr.heap.size _ mods wr (Nat.le_refl _) (Sl.of_own HO.out) (by omega))
     obtain ⟨tw, htw⟩ : ∃ tw, Hg.twice mods = tw := ⟨_, rfl⟩
     rw [htw] at TT
     have HTW := Lib.hid htw
     clear htw
     go_wp2_with fail
     refine TT.out.mono ?_
     rintro e w4 ⟨rfl, hb4⟩
     have hg4 := hgr.trans (below_grown hb4 (some wb))
     have HW4 := Lib.hid (HWr.out.below hb4 (Nat.le_refl _))
     clear c0 c1 c2 c3 c4 c5 d0 d1 d2 d3 d4 d5 f0 g0 g1 g2 g3 g4 g5
     obtain ⟨c0, c1, c2, c3, c4, c5, hf⟩ := HW4.out.cell
     have f0 := hf 0
     clear hf
     go_upto_region 18 with fail
     have hW5 := HW4.out.setClash tw
     have hg5' := wk_grown hg4 0 (.bool tw)
     generalize World.setCell w4 _ _ = w5 at hW5 hg5' ⊢
     clear c0 c1 c2 c3 c4 c5 f0
     obtain ⟨c0, c1, c2, c3, c4, c5, hf⟩ := hW5.cell
     obtain ⟨d0, d1, d2, d3, d4, d5, hg⟩ := (HR0.out.grown hg5' (by omega)).cell
     have g0 := hg 0
     have g1 := hg 1
     have g2 := hg 2
     have g3 := hg 3
     have g4 := hg 4
     have g5 := hg 5
     clear hf hg
     have hgw5 : Below w.heap.size w w5 := hb0.trans (below_ungrown (by omega) hg5' (by omega))
     go_wp2
     exact bodyPost_ret (v := .agg #[.bool tw, .bool vis.hidden, .bool vis.wrong, .int .u64 0, .slice none 0 0, .bool false]) (by simp [results, Tryz.results45, go_sem, d0, d1, d2, d3, d4, d5]) rfl ⟨by have h := HTW.out; subst h; rfl, set6_below hgw5 (Nat.le_refl _) _ _ _ _ _ _⟩
end Go.Proofs.YtihmbbkppkgcmaaGreatDoor
