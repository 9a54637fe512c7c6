/-
  Part of a proof: contracts of functions that the claim reaches, and plain lemmas.
-/
import Derived.Test.YtihmbbkppkgcmaaGreatDoorKcBS
import Derived.Test.YtihmbbkppkgcmaaGreatDoorKcBQ
set_option linter.all false
namespace Go.Proofs.YtihmbbkppkgcmaaGreatDoor
open Go.ChangeShapes Go.WideShapes Go.ChangeAt Go.ChangeMaps Go.WideMaps Go.WideElems Go.RowKit
set_option maxRecDepth 100000 in
theorem judgeTells_lifted (os : Os) (started : os.Started) (H : Type) (enc : TypeId × Value → H) :
 ReturnsInHanded {} Tryz.checked os 5 .any (fun w args => (Rows.judgeTellsSpec.pre enc Tryz.prog Tryz.f5 [] false w args ∧ laidMetH Tryz.prog lz w) ∧ sizedMet enc Tryz.prog Tryz.f5 (OpenSpec.ofChange Rows.judgeTellsSpec) false w args)
  (Rows.judgeTellsSpec.post enc Tryz.prog Tryz.f5 false true false false) := by
 refine returnsInHanded_of_change_and (C := Tryz.checked) (X := fun w _ => laidMetH Tryz.prog lz w) (fun _ _ _ hh h => h.of_heap hh) own started (by kernel_rfl) Tryz.func5
  (ChangeSpec.witness_shaped (enc := enc) (C := Tryz.checked) (os := os) (X := fun w _ => laidMetH Tryz.prog lz w) false (World.doorLaid Tryz.prog 86 os) #[.string ⟨#[]⟩, .agg #[.int .u8 0, .int .u16 0, .string ⟨#[]⟩, .bool false], .agg #[.int .u8 0, .int .u16 0, .string ⟨#[]⟩, .bool false], .int .u8 0] 8 rfl (World.shaped_of_RefB (by kernel_rfl) (by kernel_rfl)) (by kernel_rfl) (by kernel_rfl) (by kernel_rfl) (door_met os _)) ?_
 intro W base args ds gs before hval0 hW _ hsz0 hL _
 have hval : ∀ (j : Nat) t v, Tryz.f5.params[j]? = some t → args[j]? = some v → Value.okWide Tryz.prog W .any base t v := hval0
 have hsz : (DataW.weightsEach Tryz.prog (Tryz.f5.params.toList ++ Rows.judgeTellsSpec.plain.varTypes Tryz.prog) (ds ++ gs)).all (· ≤ reachBytes) = true := hsz0
 have hW' := hW
 obtain ⟨p, q, hA0, hV, rfl, hfz, hnd⟩ := hW
 have hA : DataW.TrodAll enc Tryz.prog W 0 (fun _ => true) true Tryz.f5.params.toList args.toList ds p := hA0
 rw [Tryz.params5] at hA hval hsz
 obtain ⟨v0, v1, v2, v3, d0, d1, d2, d3, p0, p1, p2, p3, rfl, rfl, rfl, h0, h1, h2, h3⟩ := trodAll_four hA
 obtain ⟨rfl, rfl⟩ := trodVars_none hV
 obtain ⟨s, rfl, rfl, rfl, hm⟩ := open_string Tryz.underlying9 (hval 0 9 v0 rfl rfl) h0
 obtain ⟨k, a, nm, raw, rfl, rfl, rfl, hk, ha, hnm⟩ := open_plan (hval 1 41 v1 rfl rfl) h1
 obtain ⟨k', a', nm', raw', rfl, rfl, rfl, hk', ha', hnm'⟩ := open_plan (hval 2 41 v2 rfl rfl) h2
 obtain ⟨kd, rfl, rfl, rfl, wkd⟩ := open_int Tryz.underlying5 (hval 3 5 v3 rfl rfl) h3
 have hkd := bounds_u8 wkd
 obtain ⟨kd, rfl⟩ := Int.eq_ofNat_of_zero_le hkd.1
 have htab := of_laid hL
 have hlen := sized_string hsz (j := 0) (t := 9) (bytes := s.data.toList) rfl rfl
 have hnl := sized_plan hsz (j := 1) (k := k) (a := a) (nm := nm) (raw := raw) rfl rfl
 have hnl' := sized_plan hsz (j := 2) (k := k') (a := a') (nm := nm') (raw := raw') rfl rfl
 clear hA0 hval0
 simp only [List.append_nil] at hW'
 obtain ⟨⟨l⟩⟩ := s
 refine (judgeTells_any l k a nm raw k' a' nm' raw' kd W (by unfold reachBytes at hlen; simp at hlen; omega) hk ha (by unfold reachBytes at hnl; omega) hk' ha' (by unfold reachBytes at hnl'; omega) (by omega) htab).mono fun e W' ⟨he, hb⟩ => ?_
 subst he
 exact ⟨_, rfl, _, _, _, [], [], [], hW', trodAll_mk1 (shut_bool Tryz.underlying4 _), trodAll_mk4 (shut_string Tryz.underlying9 hm) (shut_plan hk ha hnm) (shut_plan hk' ha' hnm') (shut_int Tryz.underlying5 wkd), rfl, hb.frame _, fun h => by cases h⟩
theorem judgeTells_holds : Rows.JudgeTellsSaid :=
 OpenClaim.holds_of_wide 5 Tryz.f5 rfl rfl rfl rfl rfl rfl rfl ⟨rfl, rfl, rfl, rfl, rfl⟩ rfl rfl rfl rfl rfl (by kernel_rfl) Tryz.func5 (by kernel_rfl)
  (of_decide_eq_true (by kernel_rfl)) (by unfold Func.isWrapper; first | (rw [if_pos (by decide +kernel)]; kernel_rfl) | (rw [if_neg (by decide +kernel)]; exact ⟨rfl, rfl⟩))
  (fun os started H enc _ => judgeTells_lifted os started H enc)
end Go.Proofs.YtihmbbkppkgcmaaGreatDoor
