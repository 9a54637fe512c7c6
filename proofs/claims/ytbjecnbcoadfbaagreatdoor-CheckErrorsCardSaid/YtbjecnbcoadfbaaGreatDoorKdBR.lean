/-
  Part of a proof of CheckErrors: contracts of functions that the claim reaches, and plain lemmas.
-/
import Derived.Test.YtbjecnbcoadfbaaGreatDoorKdBG
import Derived.Test.YtbjecnbcoadfbaaGreatDoorKdBQ
set_option linter.all false
namespace Go.Proofs.YtbjecnbcoadfbaaGreatDoor
open Go.ChangeShapes Go.WideShapes Go.ChangeAt Go.ChangeMaps Go.WideMaps Go.WideElems Go.RowKit
set_option maxRecDepth 100000 in
theorem checkErrors_lifted (os : Os) (started : os.Started) (H : Type) (enc : TypeId × Value → H) :
 ReturnsInHanded {} Tryz.checked os 3 .any (fun w args => (Rows.checkErrorsSpec.pre enc Tryz.prog Tryz.f3 [] false w args ∧ laidMetH Tryz.prog lz w) ∧ sizedMet enc Tryz.prog Tryz.f3 (OpenSpec.ofChange Rows.checkErrorsSpec) false w args)
  (Rows.checkErrorsSpec.post enc Tryz.prog Tryz.f3 false true false false) := by
 refine returnsInHanded_of_change_and (C := Tryz.checked) (X := fun w _ => laidMetH Tryz.prog lz w) (fun _ _ _ hh h => h.of_heap hh) own started (by kernel_rfl) Tryz.func3
  (ChangeSpec.witness_shaped (enc := enc) (C := Tryz.checked) (os := os) (X := fun w _ => laidMetH Tryz.prog lz w) false (World.doorLaid Tryz.prog 86 os) #[.int .u8 0, .int .u8 0] 8 rfl (World.shaped_of_RefB (by kernel_rfl) (by kernel_rfl)) (by kernel_rfl) (by kernel_rfl) (by kernel_rfl) (door_met os _)) ?_
 intro W base args ds gs before hval0 hW _ hsz0 hL _
 have hval : ∀ (j : Nat) t v, Tryz.f3.params[j]? = some t → args[j]? = some v → Value.okWide Tryz.prog W .any base t v := hval0
 have hW' := hW
 obtain ⟨p, q, hA0, hV, rfl, hfz, hnd⟩ := hW
 have hA : DataW.TrodAll enc Tryz.prog W 0 (fun _ => true) true Tryz.f3.params.toList args.toList ds p := hA0
 rw [Tryz.params3] at hA hval
 obtain ⟨v0, v1, d0, d1, p0, p1, rfl, rfl, rfl, h0, h1⟩ := trodAll_two hA
 obtain ⟨rfl, rfl⟩ := trodVars_none hV
 obtain ⟨m, rfl, rfl, rfl, wm⟩ := open_int Tryz.underlying5 (hval 0 5 v0 rfl rfl) h0
 obtain ⟨n, rfl, rfl, rfl, wn⟩ := open_int Tryz.underlying5 (hval 1 5 v1 rfl rfl) h1
 have hm := bounds_u8 wm
 have hn := bounds_u8 wn
 obtain ⟨m, rfl⟩ := Int.eq_ofNat_of_zero_le hm.1
 obtain ⟨n, rfl⟩ := Int.eq_ofNat_of_zero_le hn.1
 have htab := of_laid hL
 clear hA0 hval0
 simp only [List.append_nil] at hW'
 refine (checkErrors_any m n (by omega) (by omega) W htab).mono fun e W' ⟨he, hb⟩ => ?_
 subst he
 exact ⟨_, rfl, _, _, _, [], [], [], hW', trodAll_mk1 (shut_bool Tryz.underlying4 _), trodAll_mk2 (shut_int Tryz.underlying5 wm) (shut_int Tryz.underlying5 wn), rfl, hb.frame _, fun h => by cases h⟩
theorem checkErrors_holds : Rows.CheckErrorsSaid :=
 OpenClaim.holds_of_wide 3 Tryz.f3 rfl rfl rfl rfl rfl rfl rfl ⟨rfl, rfl, rfl, rfl, rfl⟩ rfl rfl rfl rfl rfl (by kernel_rfl) Tryz.func3 (by kernel_rfl)
  (of_decide_eq_true (by kernel_rfl)) (by unfold Func.isWrapper; first | (rw [if_pos (by decide +kernel)]; kernel_rfl) | (rw [if_neg (by decide +kernel)]; exact ⟨rfl, rfl⟩))
  (fun os started H enc _ => checkErrors_lifted os started H enc)
end Go.Proofs.YtbjecnbcoadfbaaGreatDoor
