/-
  Part of a proof of RunLoops: contracts of functions that the claim reaches, and plain lemmas.
-/
import Derived.Test.YtoelmnamlnbdhaaGreatDoorKfBH
import Derived.Test.YtoelmnamlnbdhaaGreatDoorKfBU
set_option linter.all false
namespace Go.Proofs.YtoelmnamlnbdhaaGreatDoor
open Go.ChangeShapes Go.WideShapes Go.ChangeAt Go.ChangeMaps Go.WideMaps Go.WideElems Go.RowKit
theorem tabP_of_list {W : World} : ∀ (l : List (String × DataW Unit)) (ps : List MemPlace), DataW.LaidVars Tryz.prog W l ps → ("internal/strconv.uint64pow10", (Lib.tabData .u64 Lib.pow10Tab : DataW Unit)) ∈ l → TabP W
 | [], ps, h, hm => by simp at hm
 | (n, d) :: r, ps, h, hm => by
   obtain ⟨g, t, cs, fuel, p, q, hg, ht, hvar, hd, hr, _⟩ := h
   rcases List.mem_cons.1 hm with e | hm
   ·
    injection e with e1 e2
    subst e1; subst e2
    obtain rfl := Option.some.inj (gPow.symm.trans hg)
    obtain rfl := Option.some.inj ((show (Tryz.prog.globals[3]?).map (·.type) = some 180 by kernel_rfl).symm.trans ht)
    unfold TabP Lib.TabIs
    rw [hvar, ← Lib.cells_of_tab Tryz.underlying180 Tryz.underlying29 (by kernel_rfl) (by kernel_rfl) hd]
   ·
    exact tabP_of_list r q hr hm
theorem of_laidP {W : World} (h : laidMetH Tryz.prog lz W) : TabP W := by
 rw [MakeChecks.laidMetH_plain _ _ _ (by kernel_rfl)] at h
 obtain ⟨ps, hv, _⟩ := h
 refine tabP_of_list lz ps hv ?_
 have e : (Rows.laid_internal_strconv_uint64pow10 : DataW Unit) = Lib.tabData .u64 Lib.pow10Tab := by kernel_rfl
 unfold lz
 rw [e]
 simp
set_option maxRecDepth 100000 in
theorem runLoops_lifted (os : Os) (started : os.Started) (H : Type) (enc : TypeId × Value → H) :
 ReturnsInHanded {} Tryz.checked os 3 .any (fun w args => (Rows.runLoopsSpec.pre enc Tryz.prog Tryz.f3 [] false w args ∧ laidMetH Tryz.prog lz w) ∧ sizedMet enc Tryz.prog Tryz.f3 (OpenSpec.ofChange Rows.runLoopsSpec) false w args)
  (Rows.runLoopsSpec.post enc Tryz.prog Tryz.f3 false true false false) := by
 refine returnsInHanded_of_change_and (C := Tryz.checked) (X := fun w _ => laidMetH Tryz.prog lz w) (fun _ _ _ hh h => h.of_heap hh) own started (by kernel_rfl) Tryz.func3
  (ChangeSpec.witness_shaped (enc := enc) (C := Tryz.checked) (os := os) (X := fun w _ => laidMetH Tryz.prog lz w) false (World.doorLaid Tryz.prog 86 os) #[.int .u8 0, .int .u16 0] 8 rfl (World.shaped_of_RefB (by kernel_rfl) (by kernel_rfl)) (by kernel_rfl) (by kernel_rfl) (by kernel_rfl) (door_met os _)) ?_
 intro W base args ds gs before hval0 hW _ hsz0 hL _
 have hval : ∀ (j : Nat) t v, Tryz.f3.params[j]? = some t → args[j]? = some v → Value.okWide Tryz.prog W .any base t v := hval0
 have hW' := hW
 obtain ⟨p, q, hA0, hV, rfl, hfz, hnd⟩ := hW
 have hA : DataW.TrodAll enc Tryz.prog W 0 (fun _ => true) true Tryz.f3.params.toList args.toList ds p := hA0
 rw [Tryz.params3] at hA hval
 obtain ⟨v0, v1, d0, d1, p0, p1, rfl, rfl, rfl, h0, h1⟩ := trodAll_two hA
 obtain ⟨rfl, rfl⟩ := trodVars_none hV
 obtain ⟨m, rfl, rfl, rfl, wm⟩ := open_int Tryz.underlying5 (hval 0 5 v0 rfl rfl) h0
 obtain ⟨n, rfl, rfl, rfl, wn⟩ := open_int Tryz.underlying22 (hval 1 22 v1 rfl rfl) h1
 have hm := bounds_u8 wm
 have hn := bounds_u16 wn
 obtain ⟨m, rfl⟩ := Int.eq_ofNat_of_zero_le hm.1
 obtain ⟨n, rfl⟩ := Int.eq_ofNat_of_zero_le hn.1
 have htab := of_laid hL
 have htabP := of_laidP hL
 clear hA0 hval0
 simp only [List.append_nil] at hW'
 refine (runLoops_any m n (by omega) (by omega) W htab htabP).mono fun e W' ⟨he, hb⟩ => ?_
 subst he
 exact ⟨_, rfl, _, _, _, [], [], [], hW', trodAll_mk1 (shut_bool Tryz.underlying4 _), trodAll_mk2 (shut_int Tryz.underlying5 wm) (shut_int Tryz.underlying22 wn), rfl, hb.frame _, fun h => by cases h⟩
theorem runLoops_holds : Rows.RunLoopsSaid :=
 OpenClaim.holds_of_wide 3 Tryz.f3 rfl rfl rfl rfl rfl rfl rfl ⟨rfl, rfl, rfl, rfl, rfl⟩ rfl rfl rfl rfl rfl (by kernel_rfl) Tryz.func3 (by kernel_rfl)
  (of_decide_eq_true (by kernel_rfl)) (by unfold Func.isWrapper; first | (rw [if_pos (by decide +kernel)]; kernel_rfl) | (rw [if_neg (by decide +kernel)]; exact ⟨rfl, rfl⟩))
  (fun os started H enc _ => runLoops_lifted os started H enc)
end Go.Proofs.YtoelmnamlnbdhaaGreatDoor
