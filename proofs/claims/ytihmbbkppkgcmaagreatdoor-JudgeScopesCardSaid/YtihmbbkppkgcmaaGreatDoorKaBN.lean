/-
  Part of a proof: contracts of functions that the claim reaches, and plain lemmas.
-/
import Derived.Test.YtihmbbkppkgcmaaGreatDoorKaBM
import Derived.Test.YtihmbbkppkgcmaaGreatDoorKaAZ
set_option linter.all false
namespace Go.Proofs.YtihmbbkppkgcmaaGreatDoor
open Go.RowKit
def PrintAt (w : World) (v : Value) (ws : List Nat) (cs : List Cl) (kn : Bool) : Prop :=
 ∃ a1 c1 a2 c2, v = .agg #[.slice a1 ws.length c1, .slice a2 cs.length c2, .bool kn] ∧ Sl w w.heap.size (.slice a1 ws.length c1) ws.length (ws.map idV) ∧ Sl w w.heap.size (.slice a2 cs.length c2) cs.length (cs.flatMap clCells)
theorem PrintAt.below {w w' : World} {v : Value} {ws : List Nat} {cs : List Cl} {kn : Bool} (h : PrintAt w v ws cs kn) (hb : Below w.heap.size w w') : PrintAt w' v ws cs kn := by
 obtain ⟨a1, c1, a2, c2, hv, h1, h2⟩ := h
 exact ⟨a1, c1, a2, c2, hv, (h1.below hb (Nat.le_refl _)).more hb.size, (h2.below hb (Nat.le_refl _)).more hb.size⟩
def meetsB (ws ws' : List Nat) (cs cs' : List Cl) (kn kn' : Bool) : Bool := !kn || (!kn' || (decide (∃ x ∈ ws, x ∈ ws') || decide (∃ x ∈ cs, x ∈ cs')))
set_option maxHeartbeats 4000000 in
set_option maxRecDepth 100000 in
theorem meets_any (p q : Value) (ws ws' : List Nat) (cs cs' : List Cl) (kn kn' : Bool) (w : World) (hp : PrintAt w p ws cs kn) (hq : PrintAt w q ws' cs' kn') (hl : ws.length ≤ 1000000 ∧ ws'.length ≤ 1000000 ∧ cs.length ≤ 1000000 ∧ cs'.length ≤ 1000000) :
 Calls Tryz.prog 19 #[p, q] w fun e w' => e = .returned (.bool (meetsB ws ws' cs cs' kn kn')) ∧ Below w.heap.size w w' := by
 obtain ⟨a1, c1, a2, c2, rfl, s1, s2⟩ := hp
 obtain ⟨a3, c3, a4, c4, rfl, s3, s4⟩ := hq
 obtain ⟨l1, l2, l3, l4⟩ := hl
 have hbA : Below w.heap.size w ((w.alloc (.cells #[.slice a1 ws.length c1, .slice a2 cs.length c2, .bool kn] 47)).alloc (.cells #[.slice a3 ws'.length c3, .slice a4 cs'.length c4, .bool kn'] 47)) := ((Below.refl _ _).alloc (Nat.le_refl _) _).alloc (by simp) _
 cases kn with
 | false =>
   go_enter Tryz.func19, Tryz.ntmps19
   go_wp2
   go_ret
   exact ⟨rfl, hbA⟩
 | true =>
   cases kn' with
   | false =>
     go_enter Tryz.func19, Tryz.ntmps19
     go_wp2
     go_ret
     exact ⟨rfl, hbA⟩
   | true =>
     have TM := Lib.hid (meetI_any _ _ ws ws' _ ((s1.below hbA (Nat.le_refl _)).more hbA.size) ((s3.below hbA (Nat.le_refl _)).more hbA.size) l1 l2)
     have hh1 := heap_alloc2_old w (.cells #[.slice a1 ws.length c1, .slice a2 cs.length c2, .bool true] 47) (.cells #[.slice a3 ws'.length c3, .slice a4 cs'.length c4, .bool true] 47)
     have hh2 := heap_alloc2_new w (.cells #[.slice a1 ws.length c1, .slice a2 cs.length c2, .bool true] 47) (.cells #[.slice a3 ws'.length c3, .slice a4 cs'.length c4, .bool true] 47)
     have hzA : ((w.alloc (.cells #[.slice a1 ws.length c1, .slice a2 cs.length c2, .bool true] 47)).alloc (.cells #[.slice a3 ws'.length c3, .slice a4 cs'.length c4, .bool true] 47)).heap.size = w.heap.size + 2 := by simp
     have he : meetsB ws ws' cs cs' true true = (decide (∃ x ∈ ws, x ∈ ws') || decide (∃ x ∈ cs, x ∈ cs')) := rfl
     rw [he]
     have HS2 := Lib.hid s2
     have HS4 := Lib.hid s4
     clear s1 s2 s3 s4 he
     generalize hd : decide (∃ x ∈ ws, x ∈ ws') = d at TM ⊢
     clear hd
     cases d with
     | true =>
       go_enter Tryz.func19, Tryz.ntmps19
       go_wp2_with fail
       refine TM.out.mono ?_
       rintro e w1 ⟨rfl, hb1⟩
       have HB := Lib.hid (hbA.trans (hb1.mono hbA.size))
       clear TM hbA hb1 hh1 hh2 hzA
       go_wp2
       go_ret
       exact ⟨rfl, HB.out⟩
     | false =>
       go_enter Tryz.func19, Tryz.ntmps19
       go_wp2_with fail
       refine TM.out.mono ?_
       rintro e w1 ⟨rfl, hb1⟩
       have HB := Lib.hid (hbA.trans (hb1.mono hbA.size))
       have g1 := (hb1.block w.heap.size (by omega)).trans hh1
       have g2 := (hb1.block (w.heap.size + 1) (by omega)).trans hh2
       have k1 := cell_of_row w1 w.heap.size 1 _ _ (0, 0) g1
       have k2 := cell_of_row w1 (w.heap.size + 1) 1 _ _ (0, 0) g2
       simp at k1 k2
       have TC := Lib.hid (meetC_any _ _ cs cs' w1 ((HS2.out.below HB.out (Nat.le_refl _)).more HB.out.size) ((HS4.out.below HB.out (Nat.le_refl _)).more HB.out.size) l3 l4)
       generalize hd2 : decide (∃ x ∈ cs, x ∈ cs') = d2 at TC
       have HD2 := Lib.hid hd2
       clear hd2
       clear TM hbA hb1 hh1 hh2 hzA g1 g2
       go_wp2_with fail
       refine TC.out.mono ?_
       rintro e w2 ⟨rfl, hb2⟩
       have HB2 := Lib.hid (HB.out.trans (hb2.mono HB.out.size))
       clear TC hb2
       go_wp2
       go_ret
       exact ⟨by rw [HD2.out]; rfl, HB2.out⟩
def kindAt (M : ArM) (id : Nat) : Nat := ((M id).getD Hg.Node.zero).kind
def ScopeIs (M : ArM) (id r : Nat) : Prop :=
 (kindAt M id = 2 ∨ kindAt M id = 3) ∧ (∃ k, ParIn M id (fun i => i < idTop) r k) ∨ (kindAt M id = 4 ∨ kindAt M id = 6) ∧ Chain M 3 id r ∨ kindAt M id ≠ 2 ∧ kindAt M id ≠ 3 ∧ kindAt M id ≠ 4 ∧ kindAt M id ≠ 6 ∧ r = 0
structure ArOk (M : ArM) : Prop where
 zero : M 0 = none
 kinds : ∀ i n, M i = some n → n.kind ≤ 255
 dec : ∀ i n p k, M i = some n → ParIn M i (fun i => i < idTop) p k → p < i ∨ p = 0
set_option maxHeartbeats 4000000 in
set_option maxRecDepth 100000 in
theorem scope_any (ab mb c : Nat) (M : ArM) (id r : Nat) (w : World) (hA : ArAt w ab mb c M) (hO : ArOk M) (hid : id ≤ 1000000) (hr : ScopeIs M id r) :
 Calls Tryz.prog 10 #[.pointer (some ⟨ab, 0, none⟩), .int .u64 (id : Int)] w fun e w' => e = .returned (.int .u64 (r : Int)) ∧ Below w.heap.size w w' := by
 have hit : id < idTop := by unfold idTop; omega
 have TG := get_any ab mb c M id w hA hit
 unfold GetRes at TG
 have HA := Lib.hid hA
 have HO := Lib.hid hO
 have hk255 : kindAt M id ≤ 255 := by
  unfold kindAt
  cases h : M id with
  | none => simp [Hg.Node.zero]
  | some n => exact hO.kinds id n h
 have hr' := hr
 unfold ScopeIs at hr'
 unfold kindAt at hr' hk255
 generalize (M id).getD Hg.Node.zero = nd at TG hr' hk255
 generalize (M id).isSome = sm at TG
 obtain ⟨nk, nname, nnum, ntype, nref, nkids⟩ := nd
 dsimp only at hr' hk255 TG
 have TG := Lib.hid TG
 have HR := Lib.hid hr'
 clear hA hO hr
 go_enter Tryz.func10, Tryz.ntmps10
 go_wp2_with fail
 refine TG.out.mono ?_
 rintro e w1 ⟨ka, kc, rfl, hs1, hb1⟩
 have HA1 := Lib.hid (HA.out.below hb1 (Nat.le_refl _))
 have HB1 := Lib.hid hb1
 have hbn : Below w1.heap.size w1 (w1.alloc (.cells #[.int .u8 (nk : Int), strV nname, .int .i64 nnum, .int .u8 (ntype : Int), .int .u64 (nref : Int), .slice ka nkids.length kc] 31)) := (Below.refl _ _).alloc (Nat.le_refl _) _
 have HA2 := Lib.hid (HA1.out.below hbn (Nat.le_refl _))
 have HB2 := Lib.hid (hb1.trans (hbn.mono hb1.size))
 clear TG hs1 hb1 hbn HB1 HA HA1
 rcases hr' with ⟨h1, h2⟩ | ⟨h1, h2⟩ | ⟨h1, h2, h3, h4, rfl⟩
 ·
  have TP := Lib.hid (arparent_any ab mb c M id _ HA2.out HO.out.zero)
  have H2 := Lib.hid h2
  rcases h1 with h1 | h1
  all_goals
   subst h1
   clear h2
   go_wp2_with fail
   refine TP.out.mono ?_
   rintro e w3 ⟨p, k, hp, hpt, rfl, hb3⟩
   obtain ⟨k', hk'⟩ := H2.out
   obtain ⟨rfl, rfl⟩ := hp.unique hk'
   have HB3 := Lib.hid (HB2.out.trans (hb3.mono HB2.out.size))
   clear hb3 TP hp hk'
   go_wp2
   go_ret
   exact ⟨rfl, HB3.out⟩
 ·
  have TA := Lib.hid (above_any ab mb c M 3 id r _ HA2.out HO.out.zero hid HO.out.kinds (by omega) HO.out.dec h2)
  rcases h1 with h1 | h1
  all_goals
   subst h1
   clear h2
   go_wp2_with fail
   refine TA.out.mono ?_
   rintro e w3 ⟨rfl, hb3⟩
   have HB3 := Lib.hid (HB2.out.trans (hb3.mono HB2.out.size))
   clear hb3 TA
   go_wp2
   go_ret
   exact ⟨rfl, HB3.out⟩
 ·
  have q2 : ((nk : Int) == 2) = false := by simp; omega
  have q3 : ((nk : Int) == 3) = false := by simp; omega
  have q4 : ((nk : Int) == 4) = false := by simp; omega
  have q6 : ((nk : Int) == 6) = false := by simp; omega
  go_wp2
  go_ret
  exact ⟨rfl, HB2.out⟩
end Go.Proofs.YtihmbbkppkgcmaaGreatDoor
