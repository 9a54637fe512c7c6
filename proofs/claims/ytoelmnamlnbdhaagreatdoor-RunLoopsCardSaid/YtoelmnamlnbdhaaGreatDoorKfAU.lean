/-
  Part of a proof of RunLoops: contracts of functions that the claim reaches, and plain lemmas.
-/
import Derived.Test.YtoelmnamlnbdhaaGreatDoorKfAT
import Derived.Test.YtoelmnamlnbdhaaGreatDoorKfAK
set_option linter.all false
namespace Go.Proofs.YtoelmnamlnbdhaaGreatDoor
open Go.RowKit
theorem tokInfo47 : (Tryz.prog.info? 65).map (fun i => (i.zero, i.size, i.bytes)) = some (some (.agg #[.int .u8 0, .string ⟨#[]⟩, .int .i64 0]), 3, 32) := by kernel_rfl
theorem next_any (cb : Nat) (s : List UInt8) (l acc : List Hg.Tok) (k : Nat) (w : World) (hC : ScAt w cb s k) (hl : s.length ≤ 1000000) (hT : Tail s l acc k) (hS : Solid s k) (hk : k < s.length) (hN : NumOk l) (hTab : TabOk w) (hcb : 0 < cb) (hTP : TabP w) (hcp : 3 < cb) :
 ∃ t, Tail s l (acc ++ [t]) (k + t.text.length) ∧ 0 < t.text.length ∧ Calls Tryz.prog 18 #[.pointer (some ⟨cb, 0, none⟩)] w (NextRes w cb s t (k + t.text.length)) := by
 obtain ⟨t, hn, ht, hpos⟩ := hT.next hS hk
 refine ⟨t, ht, hpos, ?_⟩
 clear hpos
 cases hn with
 | word W hp hw h => exact next_word cb s W k w hC hl hk hTab hcb (hp hk) hw h
 | name W hp hw h hn => exact next_name cb s W k w hC hl hk hTab hcb (hp hk) hw h hn
 | num W hp hw h hn =>
   obtain ⟨n, hn10, hnW⟩ := hN _ ht.mem rfl
   exact next_num cb s W k w hC hl hk hTab hcb (hp hk) hw h hn n hn10 hnW hTP hcp
 | two hp h hl2 => exact next_sign cb s _ k 2 w hC hl hk hTab hcb (hp hk) (.inl ⟨rfl, h⟩) rfl
 | one hp h2 h =>
   rcases h2 with h2 | h2
   ·
    exact next_sign cb s _ k 1 w hC hl hk hTab hcb (hp hk) (.inr ⟨rfl, h2, h⟩) rfl
   ·
    have e : (s.drop k).take 1 = (s.drop k).take 2 := by
     rw [List.take_of_length_le (by simp; omega), List.take_of_length_le (by simp; omega)]
    rw [e] at h ⊢
    exact next_sign cb s _ k 2 w hC hl hk hTab hcb (hp hk) (.inl ⟨rfl, h⟩) rfl
theorem cells_new2 (w : World) (o : Obj) (cs : List Value) (t : TypeId) : ∀ j u, cs[j]? = some u → ((w.alloc o).alloc (.cells cs.toArray t)).cell? ((⟨w.heap.size + 1, 0, none⟩ : Addr).add j) = some u := by
 have h := cells_new (w.alloc o) cs t
 simpa using h
def TokRes (w : World) (l : List Hg.Tok) (e : Ending) (w' : World) : Prop :=
 ∃ a c, e = .returned (.tuple #[.slice a l.length c, .int .i64 0]) ∧ Sl w' w'.heap.size (.slice a l.length c) l.length (l.flatMap tokCells) ∧ Below w.heap.size w w'
set_option maxHeartbeats 4000000 in
set_option maxRecDepth 100000 in
theorem allT_any (s : List UInt8) (l : List Hg.Tok) (w : World) (hl : s.length ≤ 100000) (hr : Hg.r8all s = some l) (hN : NumOk l) (hTab : TabOk w) (hTP : TabP w) :
 Calls Tryz.prog 8 #[.string ⟨s.toArray⟩] w (TokRes w l) := by
 obtain ⟨j0, hj, hj0, hj1, hj2⟩ := info_parts tokInfo47
 have hT0 : Tail s l [] 0 := ⟨Nat.zero_le _, s.length, by omega, hr⟩
 have HT0 := Lib.hid hT0
 have HNUM := Lib.hid hN
 have htl := hTab.lt
 have htp := hTP.lt
 have HTP := Lib.hid (show ∀ w1, Below w.heap.size w w1 → TabP w1 from fun w1 h => hTP.below h)
 have HTAB := Lib.hid (show ∀ w1, Below w.heap.size w w1 → TabOk w1 from fun w1 h => hTab.below h hTab.lt)
 have hq0 : decide (200000 < (s.length : Int)) = false := by simp; omega
 have hq0' : decide (200000 < s.length) = false := by simp; omega
 have hb0 : Below w.heap.size w (w.alloc (.cells #[strV s, .int .i64 0] 63)) := (Below.refl _ _).alloc (Nat.le_refl _) _
 have hC0 : ScAt (w.alloc (.cells #[strV s, .int .i64 0] 63)) w.heap.size s 0 := heap_alloc_new w _
 clear hr hN hTab hTP hT0
 have TK0 := Lib.hid (skip_any w.heap.size s l [] 0 _ hC0 (by omega) HT0.out)
 go_enter Tryz.func8, Tryz.ntmps8
 go_wp2_with fail
 refine TK0.out.mono ?_
 rintro e w1 ⟨k1, _, rfl, hs1, ht1, hso1, hg1⟩
 have hb1 : Below w.heap.size w w1 := hb0.grown hg1 (by simp) (fun q hq => by injection hq with hq; omega)
 have HS1 := Lib.hid hs1
 have HT1 := Lib.hid ht1
 have HSO1 := Lib.hid hso1
 clear hs1 ht1 hso1 hg1 hb0 hC0 TK0
 have hw1l : w.heap.size + 1 ≤ w1.heap.size := HS1.out.lt
 go_wp2
 go_loopw [4] (fun p wr => ∃ (j : Nat) (acc : List Hg.Tok), wr.ownsRow (w.heap.size + 1) 65 3 p acc.length (acc.flatMap tokCells) ∧ acc.length ≤ j ∧ ScAt wr w.heap.size s j ∧ Tail s l acc j ∧ Solid s j ∧ Below w.heap.size w wr) (fun p wr => s.length - cellN wr ⟨w.heap.size, 1, none⟩)
 case atStart => exact ⟨k1, [], World.ownsRow_nil _ _ _ _, Nat.zero_le _, HS1.out, HT1.out, HSO1.out, hb1⟩
 case round =>
  obtain ⟨j, acc, hown, haj, hs, ht, hso, hb⟩ := hrel
  obtain ⟨c0, c1, f0⟩ := hs.read
  have hjl : j ≤ s.length := ht.1
  have hm : cellN wr ⟨w.heap.size, 1, none⟩ = j := by unfold cellN; rw [c1]; simp
  have HM := Lib.hid hm
  have HO := Lib.hid hown
  have HS := Lib.hid hs
  have HT := Lib.hid ht
  have HSO := Lib.hid hso
  have hwl : w.heap.size + 1 ≤ wr.heap.size := hs.lt
  clear hm hown hs ht hso hb1 hw1l
  by_cases hlt : j < s.length
  ·
   obtain ⟨t, ht2, hpos, hcall⟩ := next_any w.heap.size s l acc j wr HS.out (by omega) HT.out HSO.out hlt HNUM.out (HTAB.out wr hb) htl (HTP.out wr hb) htp
   have HT2 := Lib.hid ht2
   have hjt : j + t.text.length ≤ s.length := ht2.1
   have HC := Lib.hid hcall
   have hne1 : ∀ q, u4.ownBlock = some q → w.heap.size + 1 ≤ q := fun q hq => (HO.out.lt q hq).1
   have HNE := Lib.hid hne1
   clear ht2 hcall hne1
   go_wp2_with fail
   refine HC.out.mono ?_
   rintro e w2 ⟨rfl, hs2, hg2⟩
   have hb2 : Below w.heap.size w w2 := hb.grown hg2 (by omega) (fun q hq => by injection hq with hq; omega)
   have ho2 : w2.ownsRow (w.heap.size + 1) 65 3 u4 acc.length (acc.flatMap tokCells) := HO.out.kept hg2 (by
    cases hq : u4.ownBlock with
    | none => exact .inl rfl
    | some q => exact .inr (fun e => by injection e with e; have := HNE.out q hq; omega))
   have HO2 := Lib.hid ho2
   have HS2 := Lib.hid hs2
   have hs2l := hg2.size
   clear hs2 hg2 ho2
   go_wp2_with (at_builtin; refine wpList_append_own_at _ rfl (.tmp 32) (.tmp 34) _ rfl (w.heap.size + 1) 65 j0 _ 3 32 Tryz.underlying35 hj hj0 hj1 hj2 rfl (by decide) _ _ _ rfl ((HO2.out.alloc _).alloc _) ⟨w2.heap.size + 1, 0, none⟩ 1 1 (tokCells t) rfl rfl (cells_new2 _ _ _ _) ?_ ?_ ?_ ?_ ?_)
   ·
    exact tok_one _
   ·
    unfold maxLen; omega
   ·
    omega
   ·
    simp; omega
   intro v3 w3 own3 g3 _ at3
   rw [tok_snoc] at own3
   have hs3 : ScAt w3 w.heap.size s (j + t.text.length) := (((HS2.out.keep (((Below.refl _ _).alloc (Nat.le_refl _) _).block _ HS2.out.lt) : ScAt (w2.alloc (.cells #[.int .u8 (t.kind : Int), strV t.text, .int .i64 (t.pos : Int)] 65)) w.heap.size s (j + t.text.length))).keep
    (((Below.refl _ _).alloc (Nat.le_refl _) _).block _ (by simp; omega))).keep (g3.block _ (by simp; omega) (fun e => by have := HNE.out _ e.symm; omega))
   have hb3 : Below w.heap.size w w3 := ((hb2.alloc hb2.size _).alloc (by simp; omega) _).grown g3 (by simp; omega) (fun q hq => by have := HNE.out q hq; omega)
   have hq3 : ∀ q, v3.ownBlock = some q → w.heap.size + 1 ≤ q := fun q hq => (own3.lt q hq).1
   have HQ3 := Lib.hid hq3
   have HO3 := Lib.hid own3
   have hw3 := hs3.lt
   have TK := Lib.hid (skip_any w.heap.size s l (acc ++ [t]) (j + t.text.length) w3 hs3 (by omega) HT2.out)
   clear own3 g3 at3 hs3 hq3 c0 c1 f0
   go_wp2_with fail
   refine TK.out.mono ?_
   rintro e w4 ⟨k4, hk4, rfl, hs4, ht4, hso4, hg4⟩
   have hb4 : Below w.heap.size w w4 := hb3.grown hg4 (by omega) (fun q hq => by injection hq with hq; omega)
   have ho4 : w4.ownsRow (w.heap.size + 1) 65 3 v3 (acc ++ [t]).length ((acc ++ [t]).flatMap tokCells) := by
    have := HO3.out.kept hg4 (by
     cases hq : v3.ownBlock with
     | none => exact .inl rfl
     | some q => exact .inr (fun e => by injection e with e; have := HQ3.out q hq; omega))
    simpa using this
   have hm4 : cellN w4 ⟨w.heap.size, 1, none⟩ = k4 := by unfold cellN; rw [hs4.read.2.1]; simp
   have HM4 := Lib.hid hm4
   have HO4 := Lib.hid ho4
   have HS4 := Lib.hid hs4
   have HT4 := Lib.hid ht4
   have HSO4 := Lib.hid hso4
   clear hs4 ht4 hso4 hg4 ho4 hm4
   go_wp2
   go_roundw
   case rel => exact ⟨k4, acc ++ [t], HO4.out, by simp; omega, HS4.out, HT4.out, HSO4.out, hb4⟩
   case measure => rw [HM4.out, HM.out]; have := HT4.out.1; omega
  ·
   have hj : j = s.length := by omega
   subst hj
   have hfin : acc = l := by
    obtain ⟨_, f, _, hr⟩ := HT.out
    rw [List.drop_length] at hr
    cases f <;> (rw [Hg.r8scan] at hr; injection hr)
   subst hfin
   have hsl := Sl.of_own HO.out
   obtain ⟨a, c, hv⟩ := hsl.form
   subst hv
   have HSL := Lib.hid hsl
   clear hsl
   go_wp2
   go_ret2
   exact ⟨a, c, rfl, HSL.out, hb⟩
end Go.Proofs.YtoelmnamlnbdhaaGreatDoor
