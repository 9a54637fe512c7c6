/-
  Part of a proof of RunLoops: contracts of functions that the claim reaches, and plain lemmas.
-/
import Derived.Test.YtoelmnamlnbdhaaGreatDoorKfAY
set_option linter.all false
namespace Hg
theorem nameB_lt {L : List Tok} {k : Nat} (h : nameB L k = true) : k < L.length := by simp [nameB] at h; exact h.1
theorem nameB_kind {L : List Tok} {k : Nat} (h : nameB L k = true) : (tkAt L k).kind = 1 := by simp [nameB] at h; exact h.2
theorem tkB_no {L : List Tok} {k : Nat} {s : Str} (h : ¬ tkB L k s = true) (hk : k < L.length) : tkIs L k s = false := by
 have h : tkB L k s = false := by simpa using h
 simpa [tkB, hk] using h
theorem gS_inv {L : List Tok} {f d k k1 : Nat} {a : GT} (h : gS L (f + 1) d k = some (a, k1)) : k < L.length ∧
 ((tkIs L k wLet = true ∧ nameB L (k + 1) = true ∧ ∃ t e q, gType L (k + 2) = some t ∧ tkB L (k + 3) [61] = true ∧ gE L f d (k + 4) = some (e, q) ∧ tkB L q [59] = true ∧ a = .mk 0 ⟨6, (tkAt L (k + 1)).text, 0, t, 0, []⟩ [] [] [e] ∧ k1 = q + 1) ∨
 (tkIs L k wLet = false ∧ tkIs L k wIf = true ∧ ∃ e q b r c, gE L f d (k + 1) = some (e, q) ∧ gB L (gS L f (d + 1)) d q = some (b, r) ∧ tkB L r wElse = true ∧ gB L (gS L f (d + 1)) d (r + 1) = some (c, k1) ∧ a = gmk 8 0 [] [e, b, c]) ∨
 (tkIs L k wLet = false ∧ tkIs L k wIf = false ∧ tkIs L k wWhile = true ∧ ∃ e q b, gE L f d (k + 1) = some (e, q) ∧ gB L (gS L f (d + 1)) d q = some (b, k1) ∧ a = gmk 9 0 [] [e, b]) ∨
 (tkIs L k wLet = false ∧ tkIs L k wIf = false ∧ tkIs L k wWhile = false ∧ tkIs L k wPrint = true ∧ ∃ e q, gE L f d (k + 1) = some (e, q) ∧ tkB L q [59] = true ∧ a = gmk 11 0 [] [e] ∧ k1 = q + 1) ∨
 (tkIs L k wLet = false ∧ tkIs L k wIf = false ∧ tkIs L k wWhile = false ∧ tkIs L k wPrint = false ∧ tkIs L k wDo = true ∧ nameB L (k + 1) = true ∧ ∃ c q, gC L (gE L f (d + 1)) d (tkAt L (k + 1)).text (k + 2) = some (c, q) ∧ tkB L q [59] = true ∧ a = gmk 12 0 [] [c] ∧ k1 = q + 1) ∨
 (tkIs L k wLet = false ∧ tkIs L k wIf = false ∧ tkIs L k wWhile = false ∧ tkIs L k wPrint = false ∧ tkIs L k wDo = false ∧ nameB L k = true ∧ tkB L (k + 1) [61] = true ∧ ∃ e q, gE L f d (k + 2) = some (e, q) ∧ tkB L q [59] = true ∧ a = gmk 7 0 (tkAt L k).text [e] ∧ k1 = q + 1)) := by
 unfold gS at h
 by_cases c1 : tkB L k wLet = true
 ·
  rw [if_pos c1] at h
  refine ⟨tkB_lt c1, .inl ⟨tkB_is c1, ?_⟩⟩
  by_cases n1 : nameB L (k + 1) = true
  ·
   rw [if_pos n1] at h
   refine ⟨n1, ?_⟩
   cases e1 : gType L (k + 2) with
   | none => rw [e1] at h; cases h
   | some t =>
     rw [e1] at h
     dsimp only at h
     by_cases c2 : tkB L (k + 3) [61] = true
     ·
      rw [if_pos c2] at h
      cases e2 : gE L f d (k + 4) with
      | none => rw [e2] at h; cases h
      | some x =>
        obtain ⟨e, q⟩ := x
        rw [e2] at h
        dsimp only at h
        by_cases c3 : tkB L q [59] = true
        ·
         rw [if_pos c3] at h
         injection h with h
         injection h with h1 h2
         exact ⟨t, e, q, rfl, c2, rfl, c3, h1.symm, h2.symm⟩
        ·
         rw [if_neg c3] at h; cases h
     ·
      rw [if_neg c2] at h; cases h
  ·
   rw [if_neg n1] at h; cases h
 rw [if_neg c1] at h
 by_cases c2 : tkB L k wIf = true
 ·
  rw [if_pos c2] at h
  refine ⟨tkB_lt c2, .inr (.inl ⟨tkB_no c1 (tkB_lt c2), tkB_is c2, ?_⟩)⟩
  cases e1 : gE L f d (k + 1) with
  | none => rw [e1] at h; cases h
  | some x =>
    obtain ⟨e, q⟩ := x
    rw [e1] at h
    dsimp only at h
    cases e2 : gB L (gS L f (d + 1)) d q with
    | none => rw [e2] at h; cases h
    | some x =>
      obtain ⟨b, r⟩ := x
      rw [e2] at h
      dsimp only at h
      by_cases c3 : tkB L r wElse = true
      ·
       rw [if_pos c3] at h
       cases e3 : gB L (gS L f (d + 1)) d (r + 1) with
       | none => rw [e3] at h; cases h
       | some x =>
         obtain ⟨c, s⟩ := x
         rw [e3] at h
         injection h with h
         injection h with h1 h2
         exact ⟨e, q, b, r, c, rfl, e2, c3, by rw [e3, h2], h1.symm⟩
      ·
       rw [if_neg c3] at h; cases h
 rw [if_neg c2] at h
 by_cases c3 : tkB L k wWhile = true
 ·
  rw [if_pos c3] at h
  have hk := tkB_lt c3
  refine ⟨hk, .inr (.inr (.inl ⟨tkB_no c1 hk, tkB_no c2 hk, tkB_is c3, ?_⟩))⟩
  cases e1 : gE L f d (k + 1) with
  | none => rw [e1] at h; cases h
  | some x =>
    obtain ⟨e, q⟩ := x
    rw [e1] at h
    dsimp only at h
    cases e2 : gB L (gS L f (d + 1)) d q with
    | none => rw [e2] at h; cases h
    | some x =>
      obtain ⟨b, r⟩ := x
      rw [e2] at h
      injection h with h
      injection h with h1 h2
      exact ⟨e, q, b, rfl, by rw [e2, h2], h1.symm⟩
 rw [if_neg c3] at h
 by_cases c4 : tkB L k wPrint = true
 ·
  rw [if_pos c4] at h
  have hk := tkB_lt c4
  refine ⟨hk, .inr (.inr (.inr (.inl ⟨tkB_no c1 hk, tkB_no c2 hk, tkB_no c3 hk, tkB_is c4, ?_⟩)))⟩
  cases e1 : gE L f d (k + 1) with
  | none => rw [e1] at h; cases h
  | some x =>
    obtain ⟨e, q⟩ := x
    rw [e1] at h
    dsimp only at h
    by_cases c6 : tkB L q [59] = true
    ·
     rw [if_pos c6] at h
     injection h with h
     injection h with h1 h2
     exact ⟨e, q, rfl, c6, h1.symm, h2.symm⟩
    ·
     rw [if_neg c6] at h; cases h
 rw [if_neg c4] at h
 by_cases c5 : tkB L k wDo = true
 ·
  rw [if_pos c5] at h
  have hk := tkB_lt c5
  refine ⟨hk, .inr (.inr (.inr (.inr (.inl ⟨tkB_no c1 hk, tkB_no c2 hk, tkB_no c3 hk, tkB_no c4 hk, tkB_is c5, ?_⟩))))⟩
  by_cases n1 : nameB L (k + 1) = true
  ·
   rw [if_pos n1] at h
   refine ⟨n1, ?_⟩
   cases e1 : gC L (gE L f (d + 1)) d (tkAt L (k + 1)).text (k + 2) with
   | none => rw [e1] at h; cases h
   | some x =>
     obtain ⟨c, q⟩ := x
     rw [e1] at h
     dsimp only at h
     by_cases c6 : tkB L q [59] = true
     ·
      rw [if_pos c6] at h
      injection h with h
      injection h with h1 h2
      exact ⟨c, q, rfl, c6, h1.symm, h2.symm⟩
     ·
      rw [if_neg c6] at h; cases h
  ·
   rw [if_neg n1] at h; cases h
 rw [if_neg c5] at h
 by_cases c6 : (nameB L k && tkB L (k + 1) [61]) = true
 ·
  rw [if_pos c6] at h
  simp only [Bool.and_eq_true] at c6
  have hk := nameB_lt c6.1
  refine ⟨hk, .inr (.inr (.inr (.inr (.inr ⟨tkB_no c1 hk, tkB_no c2 hk, tkB_no c3 hk, tkB_no c4 hk, tkB_no c5 hk, c6.1, c6.2, ?_⟩))))⟩
  cases e1 : gE L f d (k + 2) with
  | none => rw [e1] at h; cases h
  | some x =>
    obtain ⟨e, q⟩ := x
    rw [e1] at h
    dsimp only at h
    by_cases c7 : tkB L q [59] = true
    ·
     rw [if_pos c7] at h
     injection h with h
     injection h with h1 h2
     exact ⟨e, q, rfl, c7, h1.symm, h2.symm⟩
    ·
     rw [if_neg c7] at h; cases h
 ·
  rw [if_neg c6] at h; cases h
end Hg
namespace Go.Proofs.YtoelmnamlnbdhaaGreatDoor
open Go.RowKit
open Hg (GT tkAt tkIs tkAt_get tkB tkB_lt tkB_is)
set_option maxHeartbeats 4000000 in
set_option maxRecDepth 100000 in
theorem stmt_let (pb k q d t : Nat) (L : List Hg.Tok) (hL : L.length ≤ 1000000) (e : GT) (w : World) (hP : PaAt w pb L k d) (hk : k < L.length) (h1 : tkIs L k Hg.wLet = true) (hn : Hg.nameB L (k + 1) = true) (ht : Hg.gType L (k + 2) = some t) (h2 : tkB L (k + 3) [61] = true)
 (hE : ∀ X, PaAt X pb L (k + 4) d → Calls Tryz.prog 50 #[.pointer (some ⟨pb, 0, none⟩)] X (PaRes X pb L q d e)) (h3 : tkB L q [59] = true) :
 Calls Tryz.prog 49 #[.pointer (some ⟨pb, 0, none⟩)] w (PaRes w pb L (q + 1) d (.mk 0 ⟨6, (tkAt L (k + 1)).text, 0, t, 0, []⟩ [] [] [e])) := by
 have TT := Lib.hid (fun X (hp : PaAt X pb L k d) => take_yes pb k d L Hg.wLet X hp hk hL h1)
 have TN := Lib.hid (fun X (hp : PaAt X pb L (k + 1) d) => name_any pb (k + 1) d L X hp (Hg.nameB_lt hn) hL (Hg.nameB_kind hn))
 have TY := Lib.hid (fun X (hp : PaAt X pb L (k + 2) d) => types_any pb (k + 2) d t L X hp hL ht)
 have TQ := Lib.hid (fun X (hp : PaAt X pb L (k + 3) d) => want1 pb d L hL (k + 3) [61] X X.heap.size rfl hp h2)
 have TE := Lib.hid hE
 have TS := Lib.hid (fun X (hp : PaAt X pb L q d) => want1 pb d L hL q [59] X X.heap.size rfl hp h3)
 generalize (tkAt L (k + 1)).text = nm at TN ⊢
 clear hk h1 hn ht h2 hE h3
 have HT := Lib.hid (show TrAt w pb w.heap.size (Hg.ndK 0) [] [] (w.alloc (.cells #[.int .u8 0, .string ⟨#[]⟩, .int .i64 0, .int .u8 0, .int .u64 0, .slice none 0 0, .string ⟨#[]⟩, .string ⟨#[]⟩, .slice none 0 0, .int .u64 0] 72)) (.slice none 0 0) [] from TrAt.new hP.lt)
 have HP := Lib.hid (show PaAt (w.alloc (.cells #[.int .u8 0, .string ⟨#[]⟩, .int .i64 0, .int .u8 0, .int .u64 0, .slice none 0 0, .string ⟨#[]⟩, .string ⟨#[]⟩, .slice none 0 0, .int .u64 0] 72)) pb L k d from hP.keep ((Below.refl _ _).alloc hP.lt _))
 clear hP
 go_enter Tryz.func49, Tryz.ntmps49
 go_upto_region 5 with fail
 generalize World.alloc w _ = w0 at HT HP ⊢
 generalize w.heap.size = b0 at HT ⊢
 go_wp2_with fail
 refine (TT.out _ HP.out).mono ?_
 rintro e w1 ⟨rfl, hp, hg⟩
 have HT1 := Lib.hid (HT.out.keep hg)
 have HP1 := Lib.hid hp
 clear hp hg TT HT HP
 go_wp2_with fail
 refine (TN.out _ HP1.out).mono ?_
 rintro e w2 ⟨rfl, hp, hg⟩
 have HT2 := Lib.hid (HT1.out.keep hg)
 have HP2 := Lib.hid hp
 clear hp hg TN HT1 HP1
 obtain ⟨hbl, z0, z1, -, -⟩ := HT2.out.row
 have zf := HT2.out.cells.2
 have HT3 := Lib.hid (show TrAt w pb b0 ⟨6, nm, 0, 0, 0, []⟩ [] [] ((w2.setCell ⟨b0, 0, none⟩ (.int .u8 6)).setCell ⟨b0, 1, none⟩ (strV nm)) (.slice none 0 0) [] from (HT2.out.set (i := 0) (u := .int .u8 6) (nd' := Hg.ndK 6) (md' := []) (tt' := []) rfl).set rfl)
 have HP3 := Lib.hid (show PaAt ((w2.setCell ⟨b0, 0, none⟩ (.int .u8 6)).setCell ⟨b0, 1, none⟩ (strV nm)) pb L (k + 2) d from (HP2.out.field HT2.out.lt 0 _).field HT2.out.lt 1 _)
 clear HT2 HP2
 go_upto_region 7 with fail
 clear hbl z0 z1 zf
 generalize World.setCell (World.setCell w2 _ _) _ _ = w3 at HT3 HP3 ⊢
 go_wp2_with fail
 refine (TY.out _ HP3.out).mono ?_
 rintro e w4 ⟨rfl, hp, hg⟩
 have HT4 := Lib.hid (HT3.out.keep hg)
 have HP4 := Lib.hid hp
 clear hp hg TY HT3 HP3
 obtain ⟨hbl, -, -, z3, -⟩ := HT4.out.row
 have zf := HT4.out.cells.2
 have HT5 := Lib.hid (show TrAt w pb b0 ⟨6, nm, 0, t, 0, []⟩ [] [] (w4.setCell ⟨b0, 3, none⟩ (.int .u8 (t : Int))) (.slice none 0 0) [] from HT4.out.set rfl)
 have HP5 := Lib.hid (show PaAt (w4.setCell ⟨b0, 3, none⟩ (.int .u8 (t : Int))) pb L (k + 3) d from HP4.out.field HT4.out.lt 3 _)
 clear HT4 HP4
 go_upto_region 8 with fail
 clear hbl z3 zf
 generalize World.setCell w4 _ _ = w5 at HT5 HP5 ⊢
 go_wp2_with fail
 refine (TQ.out _ HP5.out).mono ?_
 rintro e w6 ⟨rfl, hp, hg⟩
 have HT6 := Lib.hid (HT5.out.keep hg)
 have HP6 := Lib.hid hp
 clear hp hg TQ HT5 HP5
 go_wp2_with fail
 refine (TE.out _ HP6.out).mono ?_
 rintro e w7 ⟨te, rfl, hera, hF, hp, hg⟩
 have HERA := Lib.hid hera
 have HF := Lib.hid (hF.down HT6.out.kd.sz)
 have HT7 := Lib.hid (HT6.out.keep hg)
 have HP7 := Lib.hid hp
 clear hera hF hp hg TE HT6 HP6
 have HT8 := Lib.hid (HT7.out.litp (n := 1) (l := [te]) (cs := #[ptrV te]) (B := w7.heap.size) HF.out rfl rfl rfl (by decide))
 have HP8 := Lib.hid ((HP7.out.field HT7.out.lt 8 (.slice (some ⟨w7.heap.size, 0, none⟩) 1 1)).fresh (.cells #[ptrV te] 41))
 obtain ⟨hbl, -, -, -, -⟩ := HT7.out.row
 obtain ⟨z8, zf⟩ := HT7.out.cells
 clear HT7 HP7 HF
 go_upto_region 24 with fail
 clear hbl z8 zf
 generalize World.alloc (World.setCell w7 _ _) _ = w8 at HT8 HP8 ⊢
 go_wp2_with fail
 refine (TS.out _ HP8.out).mono ?_
 rintro e w9 ⟨rfl, hp, hg⟩
 have HT9 := Lib.hid (HT8.out.keep hg)
 have HP9 := Lib.hid hp
 clear hp hg TS HT8 HP8
 go_wp2
 go_ret
 exact HT9.out.res HP9.out (by rw [← HERA.out]; rfl)
set_option maxHeartbeats 4000000 in
set_option maxRecDepth 100000 in
theorem stmt_set (pb k q d : Nat) (L : List Hg.Tok) (hL : L.length ≤ 1000000) (e : GT) (w : World) (hP : PaAt w pb L k d) (hk : k < L.length) (n1 : tkIs L k Hg.wLet = false) (n2 : tkIs L k Hg.wIf = false) (n3 : tkIs L k Hg.wWhile = false) (n4 : tkIs L k Hg.wPrint = false) (n5 : tkIs L k Hg.wDo = false)
 (hn : Hg.nameB L k = true) (h2 : tkB L (k + 1) [61] = true)
 (hE : ∀ X, PaAt X pb L (k + 2) d → Calls Tryz.prog 50 #[.pointer (some ⟨pb, 0, none⟩)] X (PaRes X pb L q d e)) (h3 : tkB L q [59] = true) :
 Calls Tryz.prog 49 #[.pointer (some ⟨pb, 0, none⟩)] w (PaRes w pb L (q + 1) d (Hg.gmk 7 0 (tkAt L k).text [e])) := by
 have TA := Lib.hid (fun X (hp : PaAt X pb L k d) => take_no pb k d L Hg.wLet X hp hk hL n1)
 have TB := Lib.hid (fun X (hp : PaAt X pb L k d) => take_no pb k d L Hg.wIf X hp hk hL n2)
 have TC := Lib.hid (fun X (hp : PaAt X pb L k d) => take_no pb k d L Hg.wWhile X hp hk hL n3)
 have TD := Lib.hid (fun X (hp : PaAt X pb L k d) => take_no pb k d L Hg.wPrint X hp hk hL n4)
 have TF := Lib.hid (fun X (hp : PaAt X pb L k d) => take_no pb k d L Hg.wDo X hp hk hL n5)
 have TN := Lib.hid (fun X (hp : PaAt X pb L k d) => name_any pb k d L X hp (Hg.nameB_lt hn) hL (Hg.nameB_kind hn))
 have TQ := Lib.hid (fun X (hp : PaAt X pb L (k + 1) d) => want1 pb d L hL (k + 1) [61] X X.heap.size rfl hp h2)
 have TE := Lib.hid hE
 have TS := Lib.hid (fun X (hp : PaAt X pb L q d) => want1 pb d L hL q [59] X X.heap.size rfl hp h3)
 generalize (tkAt L k).text = nm at TN ⊢
 clear hk n1 n2 n3 n4 n5 hn h2 hE h3
 have HT := Lib.hid (show TrAt w pb w.heap.size (Hg.ndK 0) [] [] (w.alloc (.cells #[.int .u8 0, .string ⟨#[]⟩, .int .i64 0, .int .u8 0, .int .u64 0, .slice none 0 0, .string ⟨#[]⟩, .string ⟨#[]⟩, .slice none 0 0, .int .u64 0] 72)) (.slice none 0 0) [] from TrAt.new hP.lt)
 have HP := Lib.hid (show PaAt (w.alloc (.cells #[.int .u8 0, .string ⟨#[]⟩, .int .i64 0, .int .u8 0, .int .u64 0, .slice none 0 0, .string ⟨#[]⟩, .string ⟨#[]⟩, .slice none 0 0, .int .u64 0] 72)) pb L k d from hP.keep ((Below.refl _ _).alloc hP.lt _))
 clear hP
 go_enter Tryz.func49, Tryz.ntmps49
 go_upto_region 5 with fail
 generalize World.alloc w _ = w0 at HT HP ⊢
 generalize w.heap.size = b0 at HT ⊢
 go_wp2_with fail
 refine (TA.out _ HP.out).mono ?_
 rintro e w1 ⟨rfl, hb⟩
 have HT1 := Lib.hid (HT.out.keep (below_grown50 hb (some pb)))
 have HP1 := Lib.hid (HP.out.keep (hb.mono HP.out.lt))
 clear hb TA HT HP
 go_wp2_with fail
 refine (TB.out _ HP1.out).mono ?_
 rintro e w2 ⟨rfl, hb⟩
 have HT2 := Lib.hid (HT1.out.keep (below_grown50 hb (some pb)))
 have HP2 := Lib.hid (HP1.out.keep (hb.mono HP1.out.lt))
 clear hb TB HT1 HP1
 go_wp2_with fail
 refine (TC.out _ HP2.out).mono ?_
 rintro e w3 ⟨rfl, hb⟩
 have HT3 := Lib.hid (HT2.out.keep (below_grown50 hb (some pb)))
 have HP3 := Lib.hid (HP2.out.keep (hb.mono HP2.out.lt))
 clear hb TC HT2 HP2
 go_wp2_with fail
 refine (TD.out _ HP3.out).mono ?_
 rintro e w4 ⟨rfl, hb⟩
 have HT4 := Lib.hid (HT3.out.keep (below_grown50 hb (some pb)))
 have HP4 := Lib.hid (HP3.out.keep (hb.mono HP3.out.lt))
 clear hb TD HT3 HP3
 go_wp2_with fail
 refine (TF.out _ HP4.out).mono ?_
 rintro e w5 ⟨rfl, hb⟩
 have HT5 := Lib.hid (HT4.out.keep (below_grown50 hb (some pb)))
 have HP5 := Lib.hid (HP4.out.keep (hb.mono HP4.out.lt))
 clear hb TF HT4 HP4
 go_wp2_with fail
 refine (TN.out _ HP5.out).mono ?_
 rintro e w6 ⟨rfl, hp, hg⟩
 have HT6 := Lib.hid (HT5.out.keep hg)
 have HP6 := Lib.hid hp
 clear hp hg TN HT5 HP5
 obtain ⟨hbl, z0, -, -, z7⟩ := HT6.out.row
 have zf := HT6.out.cells.2
 have HT7 := Lib.hid (show TrAt w pb b0 (Hg.ndK 7) [] nm ((w6.setCell ⟨b0, 0, none⟩ (.int .u8 7)).setCell ⟨b0, 7, none⟩ (strV nm)) (.slice none 0 0) [] from (HT6.out.set (i := 0) (u := .int .u8 7) (nd' := Hg.ndK 7) (md' := []) (tt' := []) rfl).set rfl)
 have HP7 := Lib.hid (show PaAt ((w6.setCell ⟨b0, 0, none⟩ (.int .u8 7)).setCell ⟨b0, 7, none⟩ (strV nm)) pb L (k + 1) d from (HP6.out.field HT6.out.lt 0 _).field HT6.out.lt 7 _)
 clear HT6 HP6
 go_upto_region 3 with fail
 clear hbl z0 z7 zf
 generalize World.setCell (World.setCell w6 _ _) _ _ = w7 at HT7 HP7 ⊢
 go_wp2_with fail
 refine (TQ.out _ HP7.out).mono ?_
 rintro e w8 ⟨rfl, hp, hg⟩
 have HT8 := Lib.hid (HT7.out.keep hg)
 have HP8 := Lib.hid hp
 clear hp hg TQ HT7 HP7
 go_wp2_with fail
 refine (TE.out _ HP8.out).mono ?_
 rintro e w9 ⟨te, rfl, hera, hF, hp, hg⟩
 have HERA := Lib.hid hera
 have HF := Lib.hid (hF.down HT8.out.kd.sz)
 have HT9 := Lib.hid (HT8.out.keep hg)
 have HP9 := Lib.hid hp
 clear hera hF hp hg TE HT8 HP8
 have HT10 := Lib.hid (HT9.out.litp (n := 1) (l := [te]) (cs := #[ptrV te]) (B := w9.heap.size) HF.out rfl rfl rfl (by decide))
 have HP10 := Lib.hid ((HP9.out.field HT9.out.lt 8 (.slice (some ⟨w9.heap.size, 0, none⟩) 1 1)).fresh (.cells #[ptrV te] 41))
 obtain ⟨hbl, -, -, -, -⟩ := HT9.out.row
 obtain ⟨z8, zf⟩ := HT9.out.cells
 clear HT9 HP9 HF
 go_upto_region 24 with fail
 clear hbl z8 zf
 generalize World.alloc (World.setCell w9 _ _) _ = w10 at HT10 HP10 ⊢
 go_wp2_with fail
 refine (TS.out _ HP10.out).mono ?_
 rintro e w11 ⟨rfl, hp, hg⟩
 have HT11 := Lib.hid (HT10.out.keep hg)
 have HP11 := Lib.hid hp
 clear hp hg TS HT10 HP10
 go_wp2
 go_ret
 exact HT11.out.res HP11.out (by rw [← HERA.out]; rfl)
set_option maxHeartbeats 4000000 in
set_option maxRecDepth 100000 in
theorem stmt_do (pb k q d : Nat) (L : List Hg.Tok) (hL : L.length ≤ 1000000) (e : GT) (w : World) (hP : PaAt w pb L k d) (hk : k < L.length) (n1 : tkIs L k Hg.wLet = false) (n2 : tkIs L k Hg.wIf = false) (n3 : tkIs L k Hg.wWhile = false) (n4 : tkIs L k Hg.wPrint = false) (n5 : tkIs L k Hg.wDo = true)
 (hn : Hg.nameB L (k + 1) = true)
 (hE : ∀ X, PaAt X pb L (k + 2) d → Calls Tryz.prog 83 #[.pointer (some ⟨pb, 0, none⟩), strV (tkAt L (k + 1)).text] X (PaRes X pb L q d e)) (h3 : tkB L q [59] = true) :
 Calls Tryz.prog 49 #[.pointer (some ⟨pb, 0, none⟩)] w (PaRes w pb L (q + 1) d (Hg.gmk 12 0 [] [e])) := by
 have TA := Lib.hid (fun X (hp : PaAt X pb L k d) => take_no pb k d L Hg.wLet X hp hk hL n1)
 have TB := Lib.hid (fun X (hp : PaAt X pb L k d) => take_no pb k d L Hg.wIf X hp hk hL n2)
 have TC := Lib.hid (fun X (hp : PaAt X pb L k d) => take_no pb k d L Hg.wWhile X hp hk hL n3)
 have TD := Lib.hid (fun X (hp : PaAt X pb L k d) => take_no pb k d L Hg.wPrint X hp hk hL n4)
 have TF := Lib.hid (fun X (hp : PaAt X pb L k d) => take_yes pb k d L Hg.wDo X hp hk hL n5)
 have TN := Lib.hid (fun X (hp : PaAt X pb L (k + 1) d) => name_any pb (k + 1) d L X hp (Hg.nameB_lt hn) hL (Hg.nameB_kind hn))
 have TE := Lib.hid hE
 have TS := Lib.hid (fun X (hp : PaAt X pb L q d) => want1 pb d L hL q [59] X X.heap.size rfl hp h3)
 generalize (tkAt L (k + 1)).text = nm at TN TE
 clear hk n1 n2 n3 n4 n5 hn hE h3
 have HT := Lib.hid (show TrAt w pb w.heap.size (Hg.ndK 0) [] [] (w.alloc (.cells #[.int .u8 0, .string ⟨#[]⟩, .int .i64 0, .int .u8 0, .int .u64 0, .slice none 0 0, .string ⟨#[]⟩, .string ⟨#[]⟩, .slice none 0 0, .int .u64 0] 72)) (.slice none 0 0) [] from TrAt.new hP.lt)
 have HP := Lib.hid (show PaAt (w.alloc (.cells #[.int .u8 0, .string ⟨#[]⟩, .int .i64 0, .int .u8 0, .int .u64 0, .slice none 0 0, .string ⟨#[]⟩, .string ⟨#[]⟩, .slice none 0 0, .int .u64 0] 72)) pb L k d from hP.keep ((Below.refl _ _).alloc hP.lt _))
 clear hP
 go_enter Tryz.func49, Tryz.ntmps49
 go_upto_region 5 with fail
 generalize World.alloc w _ = w0 at HT HP ⊢
 generalize w.heap.size = b0 at HT ⊢
 go_wp2_with fail
 refine (TA.out _ HP.out).mono ?_
 rintro e w1 ⟨rfl, hb⟩
 have HT1 := Lib.hid (HT.out.keep (below_grown50 hb (some pb)))
 have HP1 := Lib.hid (HP.out.keep (hb.mono HP.out.lt))
 clear hb TA HT HP
 go_wp2_with fail
 refine (TB.out _ HP1.out).mono ?_
 rintro e w2 ⟨rfl, hb⟩
 have HT2 := Lib.hid (HT1.out.keep (below_grown50 hb (some pb)))
 have HP2 := Lib.hid (HP1.out.keep (hb.mono HP1.out.lt))
 clear hb TB HT1 HP1
 go_wp2_with fail
 refine (TC.out _ HP2.out).mono ?_
 rintro e w3 ⟨rfl, hb⟩
 have HT3 := Lib.hid (HT2.out.keep (below_grown50 hb (some pb)))
 have HP3 := Lib.hid (HP2.out.keep (hb.mono HP2.out.lt))
 clear hb TC HT2 HP2
 go_wp2_with fail
 refine (TD.out _ HP3.out).mono ?_
 rintro e w4 ⟨rfl, hb⟩
 have HT4 := Lib.hid (HT3.out.keep (below_grown50 hb (some pb)))
 have HP4 := Lib.hid (HP3.out.keep (hb.mono HP3.out.lt))
 clear hb TD HT3 HP3
 go_wp2_with fail
 refine (TF.out _ HP4.out).mono ?_
 rintro e w5 ⟨rfl, hp, hg⟩
 have HT5 := Lib.hid (HT4.out.keep hg)
 have HP5 := Lib.hid hp
 clear hp hg TF HT4 HP4
 go_wp2_with fail
 refine (TN.out _ HP5.out).mono ?_
 rintro e w6 ⟨rfl, hp, hg⟩
 have HT6 := Lib.hid (HT5.out.keep hg)
 have HP6 := Lib.hid hp
 clear hp hg TN HT5 HP5
 go_wp2_with fail
 refine (TE.out _ HP6.out).mono ?_
 rintro e w7 ⟨te, rfl, hera, hF, hp, hg⟩
 have HERA := Lib.hid hera
 have HF := Lib.hid (hF.down HT6.out.kd.sz)
 have HT7 := Lib.hid (HT6.out.keep hg)
 have HP7 := Lib.hid hp
 clear hera hF hp hg TE HT6 HP6
 have HT8 := Lib.hid ((HT7.out.set (i := 0) (u := .int .u8 12) (nd' := Hg.ndK 12) (md' := []) (tt' := []) rfl).litp (n := 1) (l := [te]) (cs := #[ptrV te]) (B := w7.heap.size) (HF.out.field (by omega) 0 _) (by simp) rfl rfl (by decide))
 have HP8 := Lib.hid (((HP7.out.field HT7.out.lt 0 (.int .u8 12)).field HT7.out.lt 8 (.slice (some ⟨w7.heap.size, 0, none⟩) 1 1)).fresh (.cells #[ptrV te] 41))
 obtain ⟨hbl, z0, -, -, -⟩ := HT7.out.row
 obtain ⟨z8, zf⟩ := HT7.out.cells
 clear HT7 HP7 HF
 go_upto_region 24 with fail
 clear hbl z0 z8 zf
 generalize World.alloc (World.setCell (World.setCell w7 _ _) _ _) _ = w8 at HT8 HP8 ⊢
 go_wp2_with fail
 refine (TS.out _ HP8.out).mono ?_
 rintro e w9 ⟨rfl, hp, hg⟩
 have HT9 := Lib.hid (HT8.out.keep hg)
 have HP9 := Lib.hid hp
 clear hp hg TS HT8 HP8
 go_wp2
 go_ret
 exact HT9.out.res HP9.out (by rw [← HERA.out]; rfl)
set_option maxHeartbeats 4000000 in
set_option maxRecDepth 100000 in
theorem stmt_print (pb k q d : Nat) (L : List Hg.Tok) (hL : L.length ≤ 1000000) (e : GT) (w : World) (hP : PaAt w pb L k d) (hk : k < L.length) (n1 : tkIs L k Hg.wLet = false) (n2 : tkIs L k Hg.wIf = false) (n3 : tkIs L k Hg.wWhile = false) (n4 : tkIs L k Hg.wPrint = true)
 (hE : ∀ X, PaAt X pb L (k + 1) d → Calls Tryz.prog 50 #[.pointer (some ⟨pb, 0, none⟩)] X (PaRes X pb L q d e)) (h3 : tkB L q [59] = true) :
 Calls Tryz.prog 49 #[.pointer (some ⟨pb, 0, none⟩)] w (PaRes w pb L (q + 1) d (Hg.gmk 11 0 [] [e])) := by
 have TA := Lib.hid (fun X (hp : PaAt X pb L k d) => take_no pb k d L Hg.wLet X hp hk hL n1)
 have TB := Lib.hid (fun X (hp : PaAt X pb L k d) => take_no pb k d L Hg.wIf X hp hk hL n2)
 have TC := Lib.hid (fun X (hp : PaAt X pb L k d) => take_no pb k d L Hg.wWhile X hp hk hL n3)
 have TD := Lib.hid (fun X (hp : PaAt X pb L k d) => take_yes pb k d L Hg.wPrint X hp hk hL n4)
 have TE := Lib.hid hE
 have TS := Lib.hid (fun X (hp : PaAt X pb L q d) => want1 pb d L hL q [59] X X.heap.size rfl hp h3)
 clear hk n1 n2 n3 n4 hE h3
 have HT := Lib.hid (show TrAt w pb w.heap.size (Hg.ndK 0) [] [] (w.alloc (.cells #[.int .u8 0, .string ⟨#[]⟩, .int .i64 0, .int .u8 0, .int .u64 0, .slice none 0 0, .string ⟨#[]⟩, .string ⟨#[]⟩, .slice none 0 0, .int .u64 0] 72)) (.slice none 0 0) [] from TrAt.new hP.lt)
 have HP := Lib.hid (show PaAt (w.alloc (.cells #[.int .u8 0, .string ⟨#[]⟩, .int .i64 0, .int .u8 0, .int .u64 0, .slice none 0 0, .string ⟨#[]⟩, .string ⟨#[]⟩, .slice none 0 0, .int .u64 0] 72)) pb L k d from hP.keep ((Below.refl _ _).alloc hP.lt _))
 clear hP
 go_enter Tryz.func49, Tryz.ntmps49
 go_upto_region 5 with fail
 generalize World.alloc w _ = w0 at HT HP ⊢
 generalize w.heap.size = b0 at HT ⊢
 go_wp2_with fail
 refine (TA.out _ HP.out).mono ?_
 rintro e w1 ⟨rfl, hb⟩
 have HT1 := Lib.hid (HT.out.keep (below_grown50 hb (some pb)))
 have HP1 := Lib.hid (HP.out.keep (hb.mono HP.out.lt))
 clear hb TA HT HP
 go_wp2_with fail
 refine (TB.out _ HP1.out).mono ?_
 rintro e w2 ⟨rfl, hb⟩
 have HT2 := Lib.hid (HT1.out.keep (below_grown50 hb (some pb)))
 have HP2 := Lib.hid (HP1.out.keep (hb.mono HP1.out.lt))
 clear hb TB HT1 HP1
 go_wp2_with fail
 refine (TC.out _ HP2.out).mono ?_
 rintro e w3 ⟨rfl, hb⟩
 have HT3 := Lib.hid (HT2.out.keep (below_grown50 hb (some pb)))
 have HP3 := Lib.hid (HP2.out.keep (hb.mono HP2.out.lt))
 clear hb TC HT2 HP2
 go_wp2_with fail
 refine (TD.out _ HP3.out).mono ?_
 rintro e w4 ⟨rfl, hp, hg⟩
 have HT4 := Lib.hid (HT3.out.keep hg)
 have HP4 := Lib.hid hp
 clear hp hg TD HT3 HP3
 go_wp2_with fail
 refine (TE.out _ HP4.out).mono ?_
 rintro e w5 ⟨te, rfl, hera, hF, hp, hg⟩
 have HERA := Lib.hid hera
 have HF := Lib.hid (hF.down HT4.out.kd.sz)
 have HT5 := Lib.hid (HT4.out.keep hg)
 have HP5 := Lib.hid hp
 clear hera hF hp hg TE HT4 HP4
 have HT8 := Lib.hid ((HT5.out.set (i := 0) (u := .int .u8 11) (nd' := Hg.ndK 11) (md' := []) (tt' := []) rfl).litp (n := 1) (l := [te]) (cs := #[ptrV te]) (B := w5.heap.size) (HF.out.field (by omega) 0 _) (by simp) rfl rfl (by decide))
 have HP8 := Lib.hid (((HP5.out.field HT5.out.lt 0 (.int .u8 11)).field HT5.out.lt 8 (.slice (some ⟨w5.heap.size, 0, none⟩) 1 1)).fresh (.cells #[ptrV te] 41))
 obtain ⟨hbl, z0, -, -, -⟩ := HT5.out.row
 obtain ⟨z8, zf⟩ := HT5.out.cells
 clear HT5 HP5 HF
 go_upto_region 24 with fail
 clear hbl z0 z8 zf
 generalize World.alloc (World.setCell (World.setCell w5 _ _) _ _) _ = w8 at HT8 HP8 ⊢
 go_wp2_with fail
 refine (TS.out _ HP8.out).mono ?_
 rintro e w9 ⟨rfl, hp, hg⟩
 have HT9 := Lib.hid (HT8.out.keep hg)
 have HP9 := Lib.hid hp
 clear hp hg TS HT8 HP8
 go_wp2
 go_ret
 exact HT9.out.res HP9.out (by rw [← HERA.out]; rfl)
end Go.Proofs.YtoelmnamlnbdhaaGreatDoor
namespace Go.Proofs.YtoelmnamlnbdhaaGreatDoor
open Go.RowKit
open Hg (GT tkAt tkIs tkAt_get tkB tkB_lt tkB_is)
set_option maxHeartbeats 4000000 in
set_option maxRecDepth 100000 in
theorem stmt_while (pb k q r d : Nat) (L : List Hg.Tok) (hL : L.length ≤ 1000000) (e b : GT) (w : World) (hP : PaAt w pb L k d) (hk : k < L.length) (n1 : tkIs L k Hg.wLet = false) (n2 : tkIs L k Hg.wIf = false) (n3 : tkIs L k Hg.wWhile = true)
 (hE : ∀ X, PaAt X pb L (k + 1) d → Calls Tryz.prog 50 #[.pointer (some ⟨pb, 0, none⟩)] X (PaRes X pb L q d e))
 (hB : ∀ X, PaAt X pb L q d → Calls Tryz.prog 82 #[.pointer (some ⟨pb, 0, none⟩)] X (PaRes X pb L r d b)) :
 Calls Tryz.prog 49 #[.pointer (some ⟨pb, 0, none⟩)] w (PaRes w pb L r d (Hg.gmk 9 0 [] [e, b])) := by
 have TA := Lib.hid (fun X (hp : PaAt X pb L k d) => take_no pb k d L Hg.wLet X hp hk hL n1)
 have TF := Lib.hid (fun X (hp : PaAt X pb L k d) => take_no pb k d L Hg.wIf X hp hk hL n2)
 have TC := Lib.hid (fun X (hp : PaAt X pb L k d) => take_yes pb k d L Hg.wWhile X hp hk hL n3)
 have TE := Lib.hid hE
 have TB := Lib.hid hB
 clear hk n1 n2 n3 hE hB
 have HT := Lib.hid (show TrAt w pb w.heap.size (Hg.ndK 0) [] [] (w.alloc (.cells #[.int .u8 0, .string ⟨#[]⟩, .int .i64 0, .int .u8 0, .int .u64 0, .slice none 0 0, .string ⟨#[]⟩, .string ⟨#[]⟩, .slice none 0 0, .int .u64 0] 72)) (.slice none 0 0) [] from TrAt.new hP.lt)
 have HP := Lib.hid (show PaAt (w.alloc (.cells #[.int .u8 0, .string ⟨#[]⟩, .int .i64 0, .int .u8 0, .int .u64 0, .slice none 0 0, .string ⟨#[]⟩, .string ⟨#[]⟩, .slice none 0 0, .int .u64 0] 72)) pb L k d from hP.keep ((Below.refl _ _).alloc hP.lt _))
 clear hP
 go_enter Tryz.func49, Tryz.ntmps49
 go_upto_region 5 with fail
 generalize World.alloc w _ = w0 at HT HP ⊢
 generalize w.heap.size = b0 at HT ⊢
 go_wp2_with fail
 refine (TA.out _ HP.out).mono ?_
 rintro e w1 ⟨rfl, hb⟩
 have HT1 := Lib.hid (HT.out.keep (below_grown50 hb (some pb)))
 have HP1 := Lib.hid (HP.out.keep (hb.mono HP.out.lt))
 clear hb TA HT HP
 go_wp2_with fail
 refine (TF.out _ HP1.out).mono ?_
 rintro e w2 ⟨rfl, hb⟩
 have HT2 := Lib.hid (HT1.out.keep (below_grown50 hb (some pb)))
 have HP2 := Lib.hid (HP1.out.keep (hb.mono HP1.out.lt))
 clear hb TF HT1 HP1
 go_wp2_with fail
 refine (TC.out _ HP2.out).mono ?_
 rintro e w3 ⟨rfl, hp, hg⟩
 have HT3 := Lib.hid (HT2.out.keep hg)
 have HP3 := Lib.hid hp
 clear hp hg TC HT2 HP2
 obtain ⟨hbl, z0, -, -, -⟩ := HT3.out.row
 have zf := HT3.out.cells.2
 have HT4 := Lib.hid (show TrAt w pb b0 (Hg.ndK 9) [] [] (w3.setCell ⟨b0, 0, none⟩ (.int .u8 9)) (.slice none 0 0) [] from HT3.out.set rfl)
 have HP4 := Lib.hid (HP3.out.field HT3.out.lt 0 (.int .u8 9))
 clear HT3 HP3
 go_upto_region 18 with fail
 clear hbl z0 zf
 generalize World.setCell w3 _ _ = w4 at HT4 HP4 ⊢
 go_wp2_with fail
 refine (TE.out _ HP4.out).mono ?_
 rintro e w5 ⟨te, rfl, hera, hF, hp, hg⟩
 have HERA := Lib.hid hera
 have HF := Lib.hid (hF.down HT4.out.kd.sz)
 have HT5 := Lib.hid (HT4.out.keep hg)
 have HP5 := Lib.hid hp
 clear hera hF hp hg TE HT4 HP4
 go_wp2_with fail
 refine (TB.out _ HP5.out).mono ?_
 rintro e w6 ⟨tb, rfl, herb, hF2, hp, hg⟩
 have HERB := Lib.hid herb
 have HF2 := Lib.hid (HF.out.add hg (by have := HT5.out.lt; omega) HT5.out.kd.sz hF2)
 have HT6 := Lib.hid (HT5.out.keep hg)
 have HP6 := Lib.hid hp
 clear herb hF2 hp hg TB HT5 HP5 HF
 have HT7 := Lib.hid (HT6.out.litp (n := 2) (l := [te, tb]) (cs := #[ptrV te, ptrV tb]) (B := w6.heap.size) HF2.out rfl rfl rfl (by decide))
 have HP7 := Lib.hid ((HP6.out.field HT6.out.lt 8 (.slice (some ⟨w6.heap.size, 0, none⟩) 2 2)).fresh (.cells #[ptrV te, ptrV tb] 41))
 obtain ⟨hbl, -, -, -, -⟩ := HT6.out.row
 obtain ⟨z8, zf⟩ := HT6.out.cells
 clear HT6 HP6 HF2
 go_upto_region 19 with fail
 clear hbl z8 zf
 generalize World.alloc (World.setCell w6 _ _) _ = w7 at HT7 HP7 ⊢
 go_wp2
 go_ret
 exact HT7.out.res HP7.out (by rw [← HERA.out, ← HERB.out]; rfl)
set_option maxHeartbeats 4000000 in
set_option maxRecDepth 100000 in
theorem stmt_if (pb k q r r2 d : Nat) (L : List Hg.Tok) (hL : L.length ≤ 1000000) (e b c : GT) (w : World) (hP : PaAt w pb L k d) (hk : k < L.length) (n1 : tkIs L k Hg.wLet = false) (n2 : tkIs L k Hg.wIf = true)
 (hE : ∀ X, PaAt X pb L (k + 1) d → Calls Tryz.prog 50 #[.pointer (some ⟨pb, 0, none⟩)] X (PaRes X pb L q d e))
 (hB : ∀ X, PaAt X pb L q d → Calls Tryz.prog 82 #[.pointer (some ⟨pb, 0, none⟩)] X (PaRes X pb L r d b)) (h2 : tkB L r Hg.wElse = true)
 (hC : ∀ X, PaAt X pb L (r + 1) d → Calls Tryz.prog 82 #[.pointer (some ⟨pb, 0, none⟩)] X (PaRes X pb L r2 d c)) :
 Calls Tryz.prog 49 #[.pointer (some ⟨pb, 0, none⟩)] w (PaRes w pb L r2 d (Hg.gmk 8 0 [] [e, b, c])) := by
 have TA := Lib.hid (fun X (hp : PaAt X pb L k d) => take_no pb k d L Hg.wLet X hp hk hL n1)
 have TC := Lib.hid (fun X (hp : PaAt X pb L k d) => take_yes pb k d L Hg.wIf X hp hk hL n2)
 have TE := Lib.hid hE
 have TB := Lib.hid hB
 have TQ := Lib.hid (fun X (hp : PaAt X pb L r d) => want1 pb d L hL r Hg.wElse X X.heap.size rfl hp h2)
 have TE2 := Lib.hid hC
 obtain ⟨j0, hj, hj0, hj1, hj2⟩ := info_parts treeInfo
 clear hk n1 n2 hE hB h2 hC
 have HT := Lib.hid (show TrAt w pb w.heap.size (Hg.ndK 0) [] [] (w.alloc (.cells #[.int .u8 0, .string ⟨#[]⟩, .int .i64 0, .int .u8 0, .int .u64 0, .slice none 0 0, .string ⟨#[]⟩, .string ⟨#[]⟩, .slice none 0 0, .int .u64 0] 72)) (.slice none 0 0) [] from TrAt.new hP.lt)
 have HP := Lib.hid (show PaAt (w.alloc (.cells #[.int .u8 0, .string ⟨#[]⟩, .int .i64 0, .int .u8 0, .int .u64 0, .slice none 0 0, .string ⟨#[]⟩, .string ⟨#[]⟩, .slice none 0 0, .int .u64 0] 72)) pb L k d from hP.keep ((Below.refl _ _).alloc hP.lt _))
 clear hP
 go_enter Tryz.func49, Tryz.ntmps49
 go_upto_region 5 with fail
 generalize World.alloc w _ = w0 at HT HP ⊢
 generalize w.heap.size = b0 at HT ⊢
 go_wp2_with fail
 refine (TA.out _ HP.out).mono ?_
 rintro e w1 ⟨rfl, hb⟩
 have HT1 := Lib.hid (HT.out.keep (below_grown50 hb (some pb)))
 have HP1 := Lib.hid (HP.out.keep (hb.mono HP.out.lt))
 clear hb TA HT HP
 go_wp2_with fail
 refine (TC.out _ HP1.out).mono ?_
 rintro e w2 ⟨rfl, hp, hg⟩
 have HT2 := Lib.hid (HT1.out.keep hg)
 have HP2 := Lib.hid hp
 clear hp hg TC HT1 HP1
 obtain ⟨hbl, z0, -, -, -⟩ := HT2.out.row
 have zf := HT2.out.cells.2
 have HT3 := Lib.hid (show TrAt w pb b0 (Hg.ndK 8) [] [] (w2.setCell ⟨b0, 0, none⟩ (.int .u8 8)) (.slice none 0 0) [] from HT2.out.set rfl)
 have HP3 := Lib.hid (HP2.out.field HT2.out.lt 0 (.int .u8 8))
 clear HT2 HP2
 go_upto_region 12 with fail
 clear hbl z0 zf
 generalize World.setCell w2 _ _ = w3 at HT3 HP3 ⊢
 go_wp2_with fail
 refine (TE.out _ HP3.out).mono ?_
 rintro e w4 ⟨te, rfl, hera, hF, hp, hg⟩
 have HERA := Lib.hid hera
 have HF := Lib.hid (hF.down HT3.out.kd.sz)
 have HT4 := Lib.hid (HT3.out.keep hg)
 have HP4 := Lib.hid hp
 clear hera hF hp hg TE HT3 HP3
 go_wp2_with fail
 refine (TB.out _ HP4.out).mono ?_
 rintro e w5 ⟨tb, rfl, herb, hF2, hp, hg⟩
 have HERB := Lib.hid herb
 have HF2 := Lib.hid (HF.out.add hg (by have := HT4.out.lt; omega) HT4.out.kd.sz hF2)
 have HT5 := Lib.hid (HT4.out.keep hg)
 have HP5 := Lib.hid hp
 clear herb hF2 hp hg TB HT4 HP4 HF
 have HT6 := Lib.hid (HT5.out.litp (n := 2) (l := [te, tb]) (cs := #[ptrV te, ptrV tb]) (B := w5.heap.size) HF2.out rfl rfl rfl (by decide))
 have HP6 := Lib.hid ((HP5.out.field HT5.out.lt 8 (.slice (some ⟨w5.heap.size, 0, none⟩) 2 2)).fresh (.cells #[ptrV te, ptrV tb] 41))
 obtain ⟨hbl, -, -, -, -⟩ := HT5.out.row
 obtain ⟨z8, zf⟩ := HT5.out.cells
 clear HT5 HP5 HF2
 go_upto_region 13 with fail
 clear hbl z8 zf
 generalize World.alloc (World.setCell w5 _ _) _ = w6 at HT6 HP6 ⊢
 generalize Value.slice (some ⟨w5.heap.size, 0, none⟩) 2 2 = v at HT6 HP6 ⊢
 go_wp2_with fail
 refine (TQ.out _ HP6.out).mono ?_
 rintro e w7 ⟨rfl, hp, hg⟩
 have HT7 := Lib.hid (HT6.out.keep hg)
 have HP7 := Lib.hid hp
 clear hp hg TQ HT6 HP6
 have HT := Lib.hid HT7.out.drew
 have HP := Lib.hid HP7.out.drew
 have TE := TE2
 have HG := Lib.hid (show [te, tb].length ≤ 1000000 by simp)
 clear HT7 HP7 TE2
 obtain ⟨hHeld, f0⟩ := HT.out.cells
 go_upto_region 14 with fail
 refine wp_region_two (fun w' => w'.cell? ⟨b0, 8, none⟩ = some v) 9 (by kernel_rfl) ?_
 refine tk 0 ?_ rfl (by kernel_rfl) (fun _ _ _ h => h) ‹_› (by rfl) ?_ ?_
 rotate_left
 · (intro w' hSw; (try dsimp only at hSw); go_simp; try with_reducible rfl)
 try simp only [Act.put, sA, sB, sC, sD, sE, sF]
 refine tk 1 ?_ rfl (by kernel_rfl) (fun _ _ _ h => h) ‹_› (by rfl) ?_ ?_
 rotate_left
 · (intro w' hSw; (try dsimp only at hSw); go_simp; try with_reducible rfl)
 try simp only [Act.put, sA, sB, sC, sD, sE, sF]
 refine tk 2 ?_ rfl (by kernel_rfl) (fun _ _ _ h => h) ‹_› (by rfl) ?_ ?_
 rotate_left
 · (intro w' hSw; (try dsimp only at hSw); go_simp; try with_reducible rfl)
 try simp only [Act.put, sA, sB, sC, sD, sE, sF]
 refine tk 3 ?_ rfl (by kernel_rfl) (fun _ _ _ h => h) ‹_› (by rfl) ?_ ?_
 rotate_left
 · (intro w' hSw; (try dsimp only at hSw); go_simp; try with_reducible rfl)
 try simp only [Act.put, sA, sB, sC, sD, sE, sF]
 refine tk 4 ?_ rfl (by kernel_rfl) (fun _ _ _ h => h) ‹_› (by rfl) ?_ ?_
 rotate_left
 · (intro w' hSw; (try dsimp only at hSw); go_simp; try with_reducible rfl)
 try simp only [Act.put, sA, sB, sC, sD, sE, sF]
 refine tk 5 ?_ rfl (by kernel_rfl) (fun _ _ _ h => h) ‹_› (by rfl) ?_ ?_
 rotate_left
 · (intro w' hSw; (try dsimp only at hSw); go_simp; try with_reducible rfl)
 try simp only [Act.put, sA, sB, sC, sD, sE, sF]
 refine wpAnyT_one (i := 6) rfl (by kernel_rfl) (fun K hK => ?_)
 go_simp
 refine (TE.out w7.drew HP.out).mono ?_
 rintro e w5 ⟨t, rfl, hera, hF5, hp5, hg5⟩
 have HT5 := Lib.hid (HT.out.keep hg5)
 have HP5 := Lib.hid hp5
 have HG5 := Lib.hid hg5
 have HF5 := Lib.hid hF5
 have HER := Lib.hid hera
 have hc5 := HT5.out.cells
 clear hp5 hg5 hF5 hera TE HP
 refine hK.out _ _ (hc5.1) (fun hHeld => ?_)
 clear hK K
 try simp only [Act.put, sA, sB, sC, sD, sE, sF]
 refine wpAnyT_one (i := 7) rfl (by kernel_rfl) (fun K hK => ?_)
 go_simp
 generalize hWa : World.alloc _ _ = Wa
 obtain ⟨hBa, hha, hza⟩ := new_alloc hWa
 have HTa := Lib.hid (HT5.out.keep (below_grown50 hBa (some pb)))
 have hca := HTa.out.cells
 have HBa := Lib.hid hBa
 clear hza hWa hBa hc5
 refine hK.out _ _ (hca.1) (fun hHeld => ?_)
 clear hK K
 try simp only [Act.put, sA, sB, sC, sD, sE, sF]
 refine wpAnyT_one (i := 8) rfl (by kernel_rfl) (fun K hK => ?_)
 have hsz := HTa.out.kd.sz
 refine step_append_own rfl (.tmp 74) (.tmp 77) _ rfl (b0 + 1) 41 j0 _ 1 8 Tryz.underlying48 hj hj0 hj1 hj2 rfl (by decide) v [te, tb].length (List.map ptrV [te, tb]) rfl HTa.out.kd.own ⟨w5.heap.size, 0, none⟩ 1 1 [ptrV t] rfl rfl ?_ (by intro u hu; simp only [List.mem_singleton] at hu; subst hu; rfl) ?_ ?_ ?_ ?_
 ·
  exact cells_at hha
 ·
  have := HG.out; unfold maxLen; omega
 ·
  have := HG.out; omega
 ·
  exact hsz
 intro v3 W3 own3 g3 at3
 obtain ⟨y3, z3, rfl⟩ := ownsRow_succ own3
 have g3' : Wa.grownBy W3 v.ownBlock := ⟨g3.os, g3.tape, g3.output, g3.size, g3.block⟩
 have HK6 := Lib.hid (HT.out.grow (W1 := w5) (Wd := Wa) HG5.out HF5.out HBa.out own3 g3' at3)
 have HP6 := Lib.hid (HTa.out.pa (HP5.out.keep (HBa.out.mono HP5.out.lt)) g3' (.slice (some ⟨y3, 0, none⟩) ([te, tb].length + 1) z3))
 have hX : ∀ q, v.ownBlock = some q → b0 + 1 ≤ q := fun q e => (HTa.out.kd.own.lt q e).1
 have hk3 : ∀ i, i < b0 + 1 → W3.heap[i]? = Wa.heap[i]? := fun i hi => g3.block i (by omega) (fun e => by have := hX i e.symm; omega)
 have y2 := cell_of_row W3 b0 8 _ _ (0, 0) ((hk3 _ (by omega)).trans HTa.out.kd.hh)
 have HF3 := Lib.hid (show ∀ i, W3.frozen? ⟨b0, i, none⟩ = false from fun i => by simp [World.frozen?, (hk3 _ (by omega)).trans HTa.out.kd.hh])
 clear own3 g3 at3 g3' hX hk3 hca hsz hha
 refine hK.out _ _ (y2) (fun hHeld => ?_)
 clear hK K
 try simp only [Act.put, sA, sB, sC, sD, sE, sF]
 refine wpAnyT_tail (by kernel_rfl) ?_
 simp only [List.drop_succ_cons, List.drop_zero]
 have y2 := hHeld
 have f3 := HF3.out
 clear f0
 go_upto_region 15 with fail
 generalize World.setCell W3 _ _ = w9 at HK6 HP6 ⊢
 go_wp2
 go_ret
 exact HK6.out.res HP6.out (by rw [← HERA.out, ← HERB.out, ← HER.out]; rfl)
theorem gB_adv {L : List Hg.Tok} {item : Nat → Option (GT × Nat)} (hi : ∀ k a k1, item k = some (a, k1) → k < k1 ∧ k < L.length) {d k k1 : Nat} {a : GT} (h : Hg.gB L item d k = some (a, k1)) : k < k1 := by
 unfold Hg.gB at h
 by_cases hc : (decide (d < 60) && tkB L k [123]) = true
 ·
  rw [if_pos hc] at h
  cases hu : Hg.gUntil L [125] item L.length (k + 1) with
  | none => rw [hu] at h; cases h
  | some x =>
    obtain ⟨l, k2⟩ := x
    rw [hu] at h
    injection h with h
    injection h with h1 h2
    have key : ∀ n k l k2, Hg.gUntil L [125] item n k = some (l, k2) → k ≤ k2 := by
     intro n
     induction n with
     | zero => intro k l k2 h; cases h
     | succ n ih =>
       intro k l k2 h
       rcases Hg.gUntil_inv h with ⟨_, _, h⟩ | ⟨_, _, a, k1, m, h3, h4, _⟩
       ·
        omega
       ·
        have := ih _ _ _ h4; have := (hi _ _ _ h3).1; omega
    have := key _ _ _ _ hu
    omega
 ·
  rw [if_neg hc] at h; cases h
theorem gS_adv {L : List Hg.Tok} : ∀ f d k a k1, Hg.gS L f d k = some (a, k1) → k < k1 ∧ k < L.length := by
 intro f
 induction f with
 | zero => intro d k a k1 h; cases h
 | succ f ih =>
   intro d k a k1 h
   obtain ⟨hk, h⟩ := Hg.gS_inv h
   refine ⟨?_, hk⟩
   rcases h with ⟨_, _, t, e, q, _, _, h1, _, _, h2⟩ | ⟨_, _, e, q, b, r, c, h1, h2, _, h3, _⟩ | ⟨_, _, _, e, q, b, h1, h2, _⟩ | ⟨_, _, _, _, e, q, h1, _, _, h2⟩ | ⟨_, _, _, _, _, _, c, q, h1, _, _, h2⟩ | ⟨_, _, _, _, _, _, _, e, q, h1, _, _, h2⟩
   ·
    have := (Hg.gE_adv _ _ _ _ _ h1).1; omega
   ·
    have := (Hg.gE_adv _ _ _ _ _ h1).1; have := gB_adv (fun k a k1 => ih (d + 1) k a k1) h2; have := gB_adv (fun k a k1 => ih (d + 1) k a k1) h3; omega
   ·
    have := (Hg.gE_adv _ _ _ _ _ h1).1; have := gB_adv (fun k a k1 => ih (d + 1) k a k1) h2; omega
   ·
    have := (Hg.gE_adv _ _ _ _ _ h1).1; omega
   ·
    have := (Hg.gC_adv (fun k a k1 => Hg.gE_adv f (d + 1) k a k1) h1).1; omega
   ·
    have := (Hg.gE_adv _ _ _ _ _ h1).1; omega
theorem stmt_any (pb : Nat) (L : List Hg.Tok) (hL : L.length ≤ 1000000) : ∀ f d W k a k1, PaAt W pb L k d → Hg.gS L f d k = some (a, k1) → Calls Tryz.prog 49 #[.pointer (some ⟨pb, 0, none⟩)] W (PaRes W pb L k1 d a) := by
 intro f
 induction f with
 | zero => intro d W k a k1 _ h; cases h
 | succ f ih =>
   intro d W k a k1 hP h
   have hi : ItemS L pb (d + 1) (Hg.gS L f (d + 1)) := ⟨fun W k a k1 => ih (d + 1) W k a k1, fun k a k1 => gS_adv f (d + 1) k a k1⟩
   obtain ⟨hk, h⟩ := Hg.gS_inv h
   rcases h with ⟨c1, n1, t, e, q, h1, h2, h3, h4, rfl, rfl⟩ | ⟨c1, c2, e, q, b, r, c, h1, h2, h3, h4, rfl⟩ | ⟨c1, c2, c3, e, q, b, h1, h2, rfl⟩ | ⟨c1, c2, c3, c4, e, q, h1, h2, rfl, rfl⟩ | ⟨c1, c2, c3, c4, c5, n1, c, q, h1, h2, rfl, rfl⟩ | ⟨c1, c2, c3, c4, c5, n1, h0, e, q, h1, h2, rfl, rfl⟩
   ·
    exact stmt_let pb k q d t L hL e W hP hk c1 n1 h1 h2 (fun X hx => expr_any pb L hL f d X _ _ _ hx h3) h4
   ·
    exact stmt_if pb k q r k1 d L hL e b c W hP hk c1 c2 (fun X hx => expr_any pb L hL f d X _ _ _ hx h1) (fun X hx => block_any pb d q r L hL b X _ hx hi h2) h3 (fun X hx => block_any pb d (r + 1) k1 L hL c X _ hx hi h4)
   ·
    exact stmt_while pb k q k1 d L hL e b W hP hk c1 c2 c3 (fun X hx => expr_any pb L hL f d X _ _ _ hx h1) (fun X hx => block_any pb d q k1 L hL b X _ hx hi h2)
   ·
    exact stmt_print pb k q d L hL e W hP hk c1 c2 c3 c4 (fun X hx => expr_any pb L hL f d X _ _ _ hx h1) h2
   ·
    exact stmt_do pb k q d L hL c W hP hk c1 c2 c3 c4 c5 n1 (fun X hx => call_any pb d (k + 2) q L hL _ c X _ hx (expr_item pb L hL f (d + 1)) h1) h2
   ·
    exact stmt_set pb k q d L hL e W hP hk c1 c2 c3 c4 c5 n1 h0 (fun X hx => expr_any pb L hL f d X _ _ _ hx h1) h2
theorem stmt_item (pb : Nat) (L : List Hg.Tok) (hL : L.length ≤ 1000000) (f d : Nat) : ItemS L pb d (Hg.gS L f d) := ⟨fun W k a k1 => stmt_any pb L hL f d W k a k1, fun k a k1 => gS_adv f d k a k1⟩
end Go.Proofs.YtoelmnamlnbdhaaGreatDoor
namespace Hg
variable {L : List Tok}
theorem gMore_len {item : Nat → Option (GT × Nat)} : ∀ n k l k2, gMore L item n k = some (l, k2) → l.length ≤ n := by
 intro n
 induction n with
 | zero => intro k l k2 h; cases h
 | succ n ih =>
   intro k l k2 h
   unfold gMore at h
   cases hit : item k with
   | none => rw [hit] at h; cases h
   | some x =>
     obtain ⟨a, k1⟩ := x
     rw [hit] at h
     dsimp only at h
     by_cases c1 : tkB L k1 [41] = true
     ·
      rw [if_pos c1] at h
      injection h with h
      injection h with h1 h2
      rw [← h1]
      simp
     rw [if_neg c1] at h
     by_cases c2 : tkB L k1 [44] = true
     ·
      rw [if_pos c2] at h
      cases hm : gMore L item n (k1 + 1) with
      | none => rw [hm] at h; cases h
      | some y =>
        obtain ⟨l', k3⟩ := y
        rw [hm] at h
        injection h with h
        injection h with h1 h2
        have := ih _ _ _ hm
        rw [← h1]
        simpa using this
     ·
      rw [if_neg c2] at h; cases h
theorem gList_len {item : Nat → Option (GT × Nat)} {k k2 : Nat} {l : List GT} (h : gList L item k = some (l, k2)) : l.length ≤ L.length := by
 unfold gList at h
 by_cases c1 : tkB L k [41] = true
 ·
  rw [if_pos c1] at h
  injection h with h
  injection h with h1 h2
  rw [← h1]
  simp
 ·
  rw [if_neg c1] at h
  exact gMore_len _ _ _ _ h
theorem gUntil_end {stop : Str} {item : Nat → Option (GT × Nat)} : ∀ n k l k2, gUntil L stop item n k = some (l, k2) → tkB L k2 stop = true := by
 intro n
 induction n with
 | zero => intro k l k2 h; cases h
 | succ n ih =>
   intro k l k2 h
   rcases gUntil_inv h with ⟨h1, _, h2⟩ | ⟨_, _, a, k1, m, _, h4, _⟩
   ·
    rw [h2]; exact h1
   ·
    exact ih _ _ _ h4
theorem gPar_inv {k k1 : Nat} {a : GT} (h : gPar L k = some (a, k1)) : nameB L k = true ∧ ∃ t, gType L (k + 1) = some t ∧ a = .mk 0 ⟨4, (tkAt L k).text, 0, t, 0, []⟩ [] [] [] ∧ k1 = k + 2 := by
 unfold gPar at h
 by_cases n1 : nameB L k = true
 ·
  rw [if_pos n1] at h
  refine ⟨n1, ?_⟩
  cases e1 : gType L (k + 1) with
  | none => rw [e1] at h; cases h
  | some t =>
    rw [e1] at h
    injection h with h
    injection h with h1 h2
    exact ⟨t, rfl, h1.symm, h2.symm⟩
 ·
  rw [if_neg n1] at h; cases h
theorem gPar_adv {k k1 : Nat} {a : GT} (h : gPar L k = some (a, k1)) : k < k1 ∧ k < L.length := by
 obtain ⟨h1, t, _, _, h2⟩ := gPar_inv h
 exact ⟨by omega, nameB_lt h1⟩
theorem gF_inv {f k k' : Nat} {a : GT} (h : gF L f k = some (a, k')) : tkB L k wFunc = true ∧ nameB L (k + 1) = true ∧ tkB L (k + 2) [40] = true ∧
 ∃ ps k1 t ss k2 e k3, gList L (gPar L) (k + 3) = some (ps, k1) ∧ gType L k1 = some t ∧ tkB L (k1 + 1) [123] = true ∧ gUntil L wReturn (gS L f 0) L.length (k1 + 2) = some (ss, k2) ∧ gE L f 0 (k2 + 1) = some (e, k3) ∧ tkB L k3 [59] = true ∧ tkB L (k3 + 1) [125] = true ∧
   a = .mk 0 ⟨3, (tkAt L (k + 1)).text, 0, t, 0, []⟩ [] [] (ps ++ [gmk 5 0 [] (ss ++ [gmk 10 0 [] [e]])]) ∧ k' = k3 + 2 := by
 unfold gF at h
 by_cases c1 : (tkB L k wFunc && (nameB L (k + 1) && tkB L (k + 2) [40])) = true
 ·
  rw [if_pos c1] at h
  simp only [Bool.and_eq_true] at c1
  refine ⟨c1.1, c1.2.1, c1.2.2, ?_⟩
  cases e1 : gList L (gPar L) (k + 3) with
  | none => rw [e1] at h; cases h
  | some x =>
    obtain ⟨ps, k1⟩ := x
    rw [e1] at h
    dsimp only at h
    cases e2 : gType L k1 with
    | none => rw [e2] at h; cases h
    | some t =>
      rw [e2] at h
      dsimp only at h
      by_cases c2 : tkB L (k1 + 1) [123] = true
      ·
       rw [if_pos c2] at h
       cases e3 : gUntil L wReturn (gS L f 0) L.length (k1 + 2) with
       | none => rw [e3] at h; cases h
       | some x =>
         obtain ⟨ss, k2⟩ := x
         rw [e3] at h
         dsimp only at h
         cases e4 : gE L f 0 (k2 + 1) with
         | none => rw [e4] at h; cases h
         | some x =>
           obtain ⟨e, k3⟩ := x
           rw [e4] at h
           dsimp only at h
           by_cases c3 : (tkB L k3 [59] && tkB L (k3 + 1) [125]) = true
           ·
            rw [if_pos c3] at h
            simp only [Bool.and_eq_true] at c3
            injection h with h
            injection h with h1 h2
            exact ⟨ps, k1, t, ss, k2, e, k3, rfl, e2, c2, e3, e4, c3.1, c3.2, h1.symm, h2.symm⟩
           ·
            rw [if_neg c3] at h; cases h
      ·
       rw [if_neg c2] at h; cases h
 ·
  rw [if_neg c1] at h; cases h
end Hg
namespace Go.Proofs.YtoelmnamlnbdhaaGreatDoor
open Go.RowKit
open Hg (GT tkAt tkIs tkAt_get tkB tkB_lt tkB_is)
set_option maxHeartbeats 4000000 in
set_option maxRecDepth 100000 in
theorem function1_any (pb fb d k k1 : Nat) (L : List Hg.Tok) (hL : L.length ≤ 1000000) (a : GT) (nd : Hg.Node) (md tt : List UInt8) (w W : World) (v : Value) (G : List GT) (hT : TrBox w pb fb nd md tt W v G) (hP : PaAt W pb L k d) (hG : G.length ≤ 1000000) (h : Hg.gPar L k = some (a, k1)) :
 Calls Tryz.prog 47 #[.pointer (some ⟨w.heap.size, 0, none⟩), .pointer (some ⟨fb + 1, 0, none⟩)] W (GrownRes w pb fb nd md tt L k1 d G a) := by
 obtain ⟨hn, t, ht, rfl, rfl⟩ := Hg.gPar_inv h
 have hgf := hT.gf
 have hlw := hT.lt
 have TN := Lib.hid (name_any pb k d L W hP (Hg.nameB_lt hn) hL (Hg.nameB_kind hn))
 have TY := Lib.hid (fun X (hp : PaAt X pb L (k + 1) d) => types_any pb (k + 1) d t L X hp hL ht)
 generalize (tkAt L k).text = nm at TN ⊢
 have HT := Lib.hid hT
 have HG := Lib.hid hG
 obtain ⟨j0, hj, hj0, hj1, hj2⟩ := info_parts treeInfo
 obtain ⟨c0, c1, -, -⟩ := hT.cells
 generalize hDz : w.heap.size = b0 at c0 hgf hlw ⊢
 have HD := Lib.hid hDz
 clear hT hP hG h hn ht hDz
 go_enter Tryz.func47, Tryz.ntmps47
 go_wp2_with fail
 refine TN.out.mono ?_
 rintro e w1 ⟨rfl, hp1, hg1⟩
 have HX := Lib.hid (show TrAt w1 pb w1.heap.size ⟨4, nm, 0, 0, 0, []⟩ [] [] (w1.alloc (.cells #[.int .u8 4, strV nm, .int .i64 0, .int .u8 0, .int .u64 0, .slice none 0 0, .string ⟨#[]⟩, .string ⟨#[]⟩, .slice none 0 0, .int .u64 0] 72)) (.slice none 0 0) [] from TrAt.new hp1.lt)
 have HP := Lib.hid (hp1.fresh (.cells #[.int .u8 4, strV nm, .int .i64 0, .int .u8 0, .int .u64 0, .slice none 0 0, .string ⟨#[]⟩, .string ⟨#[]⟩, .slice none 0 0, .int .u64 0] 72))
 have HT1 := Lib.hid (HT.out.keep hg1)
 have HG1 := Lib.hid hg1
 have HT2 := Lib.hid (HT1.out.keep (World.grownBy_alloc w1 (.cells #[.int .u8 4, strV nm, .int .i64 0, .int .u8 0, .int .u64 0, .slice none 0 0, .string ⟨#[]⟩, .string ⟨#[]⟩, .slice none 0 0, .int .u64 0] 72) (some pb)))
 clear hp1 hg1 TN HT1 c0 c1
 go_upto_region 1 with fail
 generalize World.alloc w1 _ = w2 at HX HP HT2 ⊢
 generalize w1.heap.size = xb at HX ⊢
 obtain ⟨c0, c1, -, -⟩ := HT2.out.cells
 rw [HD.out] at c0
 go_wp2_with fail
 refine (TY.out _ HP.out).mono ?_
 rintro e w3 ⟨rfl, hp3, hg3⟩
 have HX3 := Lib.hid (HX.out.keep hg3)
 have hxg : pb < xb := HX.out.lt
 obtain ⟨hbl, -, -, z3, -⟩ := HX3.out.row
 have zf := HX3.out.cells.2
 have HX4 := Lib.hid (show TrAt w1 pb xb ⟨4, nm, 0, t, 0, []⟩ [] [] (w3.setCell ⟨xb, 3, none⟩ (.int .u8 (t : Int))) (.slice none 0 0) [] from HX3.out.set rfl)
 have HP4 := Lib.hid (show PaAt (w3.setCell ⟨xb, 3, none⟩ (.int .u8 (t : Int))) pb L (k + 2) d from hp3.field hxg 3 _)
 clear hp3 hg3 TY HX HX3 HP HT2 c0 c1 hxg
 go_upto_region 2 with fail
 clear hbl z3 zf
 generalize World.setCell w3 _ _ = w4 at HX4 HP4 ⊢
 have hGd : w1.grownBy w4 (some pb) := HX4.out.gr
 have HG5 := Lib.hid (grown_trans HG1.out hGd)
 have HT5 := Lib.hid (HT.out.keep HG5.out)
 have HP5 := Lib.hid HP4.out
 have HF5 := Lib.hid (show ForestIn W.heap.size w4 [GT.mk xb ⟨4, nm, 0, t, 0, []⟩ [] [] []] from HX4.out.kd.tree.down (by have h1 := HG1.out.size; have h2 := HX4.out.eq; omega))
 clear hGd HX4 HP4 HG1
 obtain ⟨c0, c1, c2, f0⟩ := HT5.out.cells
 rw [HD.out] at c0
 have hHeld : (fun w' => w'.cell? ⟨fb + 1, 0, none⟩ = some (.pointer (some ⟨fb, 0, none⟩)) ∧ w'.cell? ⟨b0, 0, none⟩ = some (.pointer (some ⟨pb, 0, none⟩)) ∧ w'.cell? ⟨fb, 8, none⟩ = some v) w4.drew := ⟨c1, c0, c2⟩
 clear c0 c1 c2
 refine wp_region_two (fun w' => w'.cell? ⟨fb + 1, 0, none⟩ = some (.pointer (some ⟨fb, 0, none⟩)) ∧ w'.cell? ⟨b0, 0, none⟩ = some (.pointer (some ⟨pb, 0, none⟩)) ∧ w'.cell? ⟨fb, 8, none⟩ = some v) 8 (by kernel_rfl) ?_
 refine tk 0 ?_ rfl (by kernel_rfl) (fun _ _ _ h => h) ‹_› (by rfl) ?_ ?_
 rotate_left
 · (intro w' hSw; (try dsimp only at hSw); go_simp; try with_reducible rfl)
 try simp only [Act.put, sA, sB, sC, sD, sE, sF]
 refine tk 1 ?_ rfl (by kernel_rfl) (fun _ _ _ h => h) ‹_› (by rfl) ?_ ?_
 rotate_left
 · (intro w' hSw; (try dsimp only at hSw); go_simp; try with_reducible rfl)
 try simp only [Act.put, sA, sB, sC, sD, sE, sF]
 refine tk 2 ?_ rfl (by kernel_rfl) (fun _ _ _ h => h) ‹_› (by rfl) ?_ ?_
 rotate_left
 · (intro w' hSw; (try dsimp only at hSw); go_simp; try with_reducible rfl)
 try simp only [Act.put, sA, sB, sC, sD, sE, sF]
 refine tk 3 ?_ rfl (by kernel_rfl) (fun _ _ _ h => h) ‹_› (by rfl) ?_ ?_
 rotate_left
 · (intro w' hSw; (try dsimp only at hSw); go_simp; try with_reducible rfl)
 try simp only [Act.put, sA, sB, sC, sD, sE, sF]
 refine tk 4 ?_ rfl (by kernel_rfl) (fun _ _ _ h => h) ‹_› (by rfl) ?_ ?_
 rotate_left
 · (intro w' hSw; (try dsimp only at hSw); go_simp; try with_reducible rfl)
 try simp only [Act.put, sA, sB, sC, sD, sE, sF]
 refine tk 5 ?_ rfl (by kernel_rfl) (fun _ _ _ h => h) ‹_› (by rfl) ?_ ?_
 rotate_left
 · (intro w' hSw; (try dsimp only at hSw); go_simp; try with_reducible rfl)
 try simp only [Act.put, sA, sB, sC, sD, sE, sF]
 refine wpAnyT_one (i := 6) rfl (by kernel_rfl) (fun K hK => ?_)
 go_simp
 generalize hWa : World.alloc _ _ = Wa
 obtain ⟨hBa, hha, hza⟩ := new_alloc hWa
 have hBa := hBa.trans ((Below.refl _ _).drew)
 have HTa := Lib.hid (HT5.out.keep (below_grown50 hBa (some pb)))
 have hca := HTa.out.cells
 rw [HD.out] at hca
 have HBa := Lib.hid hBa
 clear hza hWa hBa
 refine hK.out _ _ (⟨hca.2.1, hca.1, hca.2.2.1⟩) (fun hHeld => ?_)
 clear hK K
 try simp only [Act.put, sA, sB, sC, sD, sE, sF]
 refine wpAnyT_one (i := 7) rfl (by kernel_rfl) (fun K hK => ?_)
 have hsz := HTa.out.kd.sz
 refine step_append_own rfl (.tmp 18) (.tmp 20) _ rfl (fb + 2) 41 j0 _ 1 8 Tryz.underlying48 hj hj0 hj1 hj2 rfl (by decide) v G.length (G.map ptrV) rfl HTa.out.kd.own ⟨w4.heap.size, 0, none⟩ 1 1 [ptrV (GT.mk xb ⟨4, nm, 0, t, 0, []⟩ [] [] [])] rfl rfl ?_ (by intro u hu; simp only [List.mem_singleton] at hu; subst hu; rfl) ?_ ?_ ?_ ?_
 ·
  exact cells_at (w := Wa.drew) hha
 ·
  have := HG.out; unfold maxLen; omega
 ·
  have := HG.out; omega
 ·
  exact hsz
 intro v3 W3 own3 g3 at3
 obtain ⟨y3, z3, rfl⟩ := ownsRow_succ own3
 have g3' : Wa.drew.grownBy W3 v.ownBlock := ⟨g3.os, g3.tape, g3.output, g3.size, g3.block⟩
 have HK6 := Lib.hid (HT.out.grow (W1 := w4) (Wd := Wa.drew) (t := (GT.mk xb ⟨4, nm, 0, t, 0, []⟩ [] [] [])) HG5.out HF5.out HBa.out own3 g3' at3)
 have HP6 := Lib.hid (HTa.out.pa (HP5.out.keep (HBa.out.mono HP5.out.lt)) g3' (.slice (some ⟨y3, 0, none⟩) (G.length + 1) z3))
 have hX : ∀ q, v.ownBlock = some q → fb + 2 ≤ q := fun q e => (HTa.out.kd.own.lt q e).1
 have hk3 : ∀ i, i < fb + 2 → W3.heap[i]? = Wa.drew.heap[i]? := fun i hi => g3.block i (by omega) (fun e => by have := hX i e.symm; omega)
 have y0 := cell_of_row W3 (fb + 1) 0 _ _ (0, 0) ((hk3 _ (by omega)).trans HTa.out.fp)
 have y1 := cell_of_row W3 b0 0 _ _ (0, 0) ((hk3 b0 (by omega)).trans (by have := HTa.out.box; rw [HD.out] at this; exact this))
 have y2 := cell_of_row W3 fb 8 _ _ (0, 0) ((hk3 _ (by omega)).trans HTa.out.kd.hh)
 have HF3 := Lib.hid (show ∀ i, W3.frozen? ⟨fb, i, none⟩ = false from fun i => by simp [World.frozen?, (hk3 _ (by omega)).trans HTa.out.kd.hh])
 clear own3 g3 at3 g3' hX hk3 hca hsz hha
 refine hK.out _ _ (⟨y0, y1, y2⟩) (fun hHeld => ?_)
 clear hK K
 try simp only [Act.put, sA, sB, sC, sD, sE, sF]
 refine wpAnyT_tail (by kernel_rfl) ?_
 simp only [List.drop_succ_cons, List.drop_zero]
 obtain ⟨y0, y1, y2⟩ := hHeld
 have f3 := HF3.out
 clear f0
 go_wp2
 go_end0
 exact ⟨rfl, HP6.out, _, _, rfl, HK6.out⟩
end Go.Proofs.YtoelmnamlnbdhaaGreatDoor
