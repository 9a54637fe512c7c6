/-
  Part of a proof of RunLoops: contracts of functions that the claim reaches, and plain lemmas.
-/
import Derived.Test.YtoelmnamlnbdhaaGreatDoorKfAG
import Derived.Test.YtoelmnamlnbdhaaGreatDoorKfAQ
set_option linter.all false
namespace Go.Proofs.YtoelmnamlnbdhaaGreatDoor
open Go.RowKit
def TabOk (w : World) : Prop := Go.Lib.TabIs Tryz.prog w "strings.asciiSpace" .u8 Go.Lib.asciiSpaceTab
theorem gTab : Tryz.prog.globalNamed "strings.asciiSpace" = some 0 := by kernel_rfl
theorem TabOk.lt {w : World} (h : TabOk w) : 0 < w.heap.size := by
 unfold TabOk Go.Lib.TabIs at h
 cases hx : w.heap[0]? with
 | some o => exact (Array.getElem?_eq_some_iff.1 hx).1
 | none =>
   exfalso
   simp only [World.var?, gTab, Option.bind_eq_bind, Option.bind_some] at h
   rw [hx] at h
   simp at h
theorem TabOk.block {w w' : World} (h : TabOk w) (hb : w'.heap[0]? = w.heap[0]?) : TabOk w' := by
 unfold TabOk Go.Lib.TabIs at h ⊢
 rw [← h]
 simp only [World.var?, gTab, Option.bind_eq_bind, Option.bind_some]
 rw [hb]
theorem TabOk.below {w w' : World} {B : Nat} (h : TabOk w) (hb : Below B w w') (hB : 0 < B) : TabOk w' := h.block (hb.block _ hB)
def wordsL : List UInt8 := [98, 111, 111, 108, 32, 100, 111, 32, 101, 108, 115, 101, 32, 102, 97, 108, 115, 101, 32, 102, 117, 110, 99, 32, 105, 102, 32, 105, 110, 116, 32, 108, 101, 116, 32, 109, 111, 100, 117, 108, 101, 32, 112, 114, 105, 110, 116, 32, 114, 101, 97, 100, 32, 114, 101, 116, 117, 114, 110, 32, 116, 114, 117, 101, 32, 119, 104, 105, 108, 101]
def signsL : List UInt8 := [40, 32, 41, 32, 123, 32, 125, 32, 46, 32, 44, 32, 59, 32, 61, 32, 33, 32, 43, 32, 45, 32, 42, 32, 47, 32, 37, 32, 60, 32, 60, 61, 32, 62, 32, 62, 61, 32, 61, 61, 32, 33, 61, 32, 38, 38, 32, 124, 124]
theorem words_fields : Go.Lib.fields wordsL = Hg.words := by decide +kernel
theorem signs_fields : Go.Lib.fields signsL = Hg.signs := by decide +kernel
theorem words_low : wordsL.all (fun b => decide (b.toNat < 128)) = true := by decide +kernel
theorem signs_low : signsL.all (fun b => decide (b.toNat < 128)) = true := by decide +kernel
theorem low_of {l : List UInt8} (h : l.all (fun b => decide (b.toNat < 128)) = true) : ∀ (j : Nat) b, l[j]? = some b → b.toNat < 128 := fun j b hj => by
 simpa using (List.all_eq_true.1 h) b (List.mem_of_getElem? hj)
theorem fieldsT (l : List UInt8) (ws : List (List UInt8)) (hf : Go.Lib.fields l = ws) (hlow : l.all (fun b => decide (b.toNat < 128)) = true) (hl : l.length < 1000) (w : World) (hT : TabOk w) :
 Calls Tryz.prog 81 #[.string ⟨l.toArray⟩] w fun e w' => ∃ a, e = .returned (.slice (some a) ws.length ws.length) ∧ Sl w' w'.heap.size (.slice (some a) ws.length ws.length) ws.length (ws.map strV) ∧ Below w.heap.size w w' := by
 have h := Tryz.strings_Fields ⟨l.toArray⟩ w (by simp [ByteArray.size]; omega) (low_of hlow) hT
 refine h.mono ?_
 rintro e w' ⟨rfl, rfl⟩
 have e1 : (⟨l.toArray⟩ : ByteArray).data.toList = l := by simp
 rw [e1, hf]
 refine ⟨⟨w.heap.size, 0, none⟩, rfl, ?_, (Below.refl _ _).alloc (Nat.le_refl _) _⟩
 have := Sl.new w 9 ws.length (ws.map strV).toArray
 simpa using this
set_option maxRecDepth 100000 in
theorem wordsT_any (w : World) (hT : TabOk w) :
 Calls Tryz.prog 76 #[] w fun e w' => ∃ a, e = .returned (.slice (some a) 14 14) ∧ Sl w' w'.heap.size (.slice (some a) 14 14) 14 (Hg.words.map strV) ∧ Below w.heap.size w w' := by
 have TF := fieldsT wordsL Hg.words words_fields words_low (by decide) w hT
 go_enter Tryz.func76, Tryz.ntmps76
 go_wp2_with fail
 refine TF.mono ?_
 rintro e w1 ⟨a, rfl, hs, hb⟩
 go_wp2
 go_ret
 exact ⟨a, rfl, hs, hb⟩
set_option maxRecDepth 100000 in
theorem signsT_any (w : World) (hT : TabOk w) :
 Calls Tryz.prog 43 #[] w fun e w' => ∃ a, e = .returned (.slice (some a) 22 22) ∧ Sl w' w'.heap.size (.slice (some a) 22 22) 22 (Hg.signs.map strV) ∧ Below w.heap.size w w' := by
 have TF := fieldsT signsL Hg.signs signs_fields signs_low (by decide) w hT
 go_enter Tryz.func43, Tryz.ntmps43
 go_wp2_with fail
 refine TF.mono ?_
 rintro e w1 ⟨a, rfl, hs, hb⟩
 go_wp2
 go_ret
 exact ⟨a, rfl, hs, hb⟩
theorem isWord_any (s : List UInt8) (w : World) (hT : TabOk w) :
 Calls Tryz.prog 38 #[.string ⟨s.toArray⟩] w fun e w' => e = .returned (.bool (Hg.inL Hg.words s)) ∧ Below w.heap.size w w' := by
 have HT := Lib.hid hT
 clear hT
 go_enter Tryz.func38, Tryz.ntmps38
 go_wp2_with (first | (go_at_call 76; refine (wordsT_any _ HT.out).mono ?_; rintro e w1 ⟨a, rfl, hs, hb⟩) | (go_at_call 42; refine (containsS_any _ _ Hg.words s _ hs (by decide)).mono ?_; rintro e w' ⟨rfl, rfl⟩))
 go_ret
 exact ⟨rfl, hb⟩
def nameB (s : List UInt8) : Bool := Hg.r8name s && !Hg.inL Hg.words s
theorem isName_any (s : List UInt8) (w : World) (hs : s.length ≤ 1000000000) (hT : TabOk w) :
 Calls Tryz.prog 100 #[.string ⟨s.toArray⟩] w fun e w' => e = .returned (.bool (nameB s)) ∧ Below w.heap.size w w' := by
 have TS := shaped_any s
 have TW := Lib.hid (isWord_any s w hT)
 unfold nameB
 generalize Hg.inL Hg.words s = q at TW ⊢
 cases hn : Hg.r8name s with
 | true =>
   rw [hn] at TS
   clear hn
   go_enter Tryz.func100, Tryz.ntmps100
   go_wp2_with (first | (go_at_call 39; refine (TS _ hs).mono ?_; rintro e w' ⟨rfl, rfl⟩) | (go_at_call 38; refine TW.out.mono ?_; rintro e w1 ⟨rfl, hb⟩))
   go_ret
   exact ⟨ret_bool (by simp), hb⟩
 | false =>
   rw [hn] at TS
   clear hn
   go_enter Tryz.func100, Tryz.ntmps100
   go_wp2_with (go_at_call 39; refine (TS _ hs).mono ?_; rintro e w' ⟨rfl, rfl⟩)
   go_ret
   exact ⟨ret_bool (by simp), Below.refl _ _⟩
end Go.Proofs.YtoelmnamlnbdhaaGreatDoor
