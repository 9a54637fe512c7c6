/-
  Part of a proof: contracts of functions that the claim reaches, and plain lemmas.
-/
import Derived.Test.YtihmbbkppkgcmaaGreatDoorKbBL
import Derived.Test.YtihmbbkppkgcmaaGreatDoorKbBO
set_option linter.all false
namespace Go.Proofs.YtihmbbkppkgcmaaGreatDoor
open Go.RowKit
theorem print_field2 (a0 a1 a2 : Value) (w : World) : (Instr.field 47 (.agg #[a0, a1, a2]) 2).run Tryz.prog w = .ok a2 w := by kernel_rfl
set_option maxHeartbeats 8000000 in
set_option maxRecDepth 100000 in
theorem judgeOthers_any (s : List UInt8) (k a : Nat) (nm : List UInt8) (raw : Bool) (kd n : Nat) (w : World) (hs : s.length ≤ 1000000000000000) (hk : k ≤ 255) (ha : a ≤ 65535) (hnm : nm.length ≤ 1000000000000000) (hkd : kd ≤ 255) (hn : n ≤ 65535) (hT : TabOk w) :
 Calls Tryz.prog 4 #[.string ⟨s.toArray⟩, .agg #[.int .u8 (k : Int), .int .u16 (a : Int), strV nm, .bool raw], .int .u8 (kd : Int), .int .u16 (n : Int)] w fun e w' => e = .returned (.bool true) ∧ Below w.heap.size w w' := by
 have hbp : Below w.heap.size w (w.alloc (.cells #[.int .u8 (k : Int), .int .u16 (a : Int), strV nm, .bool raw] 41)) := (Below.refl _ _).alloc (Nat.le_refl _) _
 have hhp := heap_alloc_new w (.cells #[.int .u8 (k : Int), .int .u16 (a : Int), strV nm, .bool raw] 41)
 have hzp : (w.alloc (.cells #[.int .u8 (k : Int), .int .u16 (a : Int), strV nm, .bool raw] 41)).heap.size = w.heap.size + 1 := by simp
 have hT0 := hT.below hbp hT.lt
 have HTT := Lib.hid hT
 clear hT
 go_enter Tryz.func4, Tryz.ntmps4
 go_upto_region 1 with fail
 generalize World.alloc w _ = W0 at hbp hhp hzp hT0 ⊢
 generalize hpb : w.heap.size = pb at hbp hhp hzp ⊢
 have TA := Lib.hid (awake_any W0 hT0)
 have TPR := Lib.hid (fun W => program_any s W hs)
 have HPB := Lib.hid hpb
 have HBP := Lib.hid hbp
 have HHP := Lib.hid hhp
 have HZP := Lib.hid hzp
 clear hpb hbp hhp hzp hT0
 go_wp2_with fail
 refine TA.out.mono ?_
 rintro e w1 ⟨rfl, hb1⟩
 have HB1 := Lib.hid hb1
 clear hb1 TA
 go_wp2_with fail
 refine (TPR.out w1).mono ?_
 rintro e w2 ⟨ab, mb, c, v, x, hxo, rfl, hx2, hA2, hb2⟩
 have hb02 := HB1.out.trans (hb2.mono HB1.out.size)
 have hh2 := (hb02.block pb (by have := HZP.out; omega)).trans HHP.out
 have hl2 : pb < w2.heap.size := (Array.getElem?_eq_some_iff.1 hh2).1
 have HB2 := Lib.hid (show Below w.heap.size w w2 by rw [HPB.out]; exact HBP.out.trans (hb02.mono (by have := HZP.out; omega)))
 have HX2 := Lib.hid hx2
 rw [hxo.arena] at hA2
 have HA2 := Lib.hid hA2
 have HO := Lib.hid (show ArOk (tabM x) by rw [← hxo.arena]; exact arok_arena hxo)
 have HXO := Lib.hid hxo
 have hfx := hxo.facts
 have HFX := Lib.hid hfx
 have hxl : x.length ≤ 20000 := hfx.2.1
 have hx0 : 0 < x.length := by
  have := hxo.ne
  cases x with
  | nil => exact absurd rfl this
  | cons => simp
 obtain ⟨va, vc, rfl⟩ := hx2.form
 have c0 := cell_of_row w2 pb 0 _ _ (0, 0) hh2
 have c1 := cell_of_row w2 pb 1 _ _ (0, 0) hh2
 have c2 := cell_of_row w2 pb 2 _ _ (0, 0) hh2
 have c3 := cell_of_row w2 pb 3 _ _ (0, 0) hh2
 simp at c0 c1 c2 c3
 have TPL := Lib.hid (plan_any x _ k a nm raw w2 hk ha hnm hx2 hxl (fun r hr => by
  obtain ⟨j, hj, e⟩ := List.mem_iff_getElem.1 hr
  have := hxo.tr.rid j r (by rw [List.getElem?_eq_getElem hj, e])
  omega))
 clear hx2 hA2 hxo hfx hb2 hb02 hh2 TPR
 go_wp2_with fail
 refine TPL.out.mono ?_
 rintro e w3 ⟨κ, α, on, rfl, hok, hon, hα, hb3⟩
 have HB3 := Lib.hid (HB2.out.trans (hb3.mono HB2.out.size))
 have hx3 := (HX2.out.below hb3 (Nat.le_refl _)).more hb3.size
 have hA3 := HA2.out.below hb3 (Nat.le_refl _)
 have HOK := Lib.hid hok
 have HON := Lib.hid hon
 have HAL := Lib.hid hα
 clear hb3 TPL c0 c1 c2 c3 hok hon hα
 go_upto_region 5 with fail
 have hbo : Below w3.heap.size w3 (w3.alloc (.cells #[.int .u8 (κ : Int), .int .u64 (α : Int), .int .u64 ((0 : Nat) : Int), strV on] 43)) := (Below.refl _ _).alloc (Nat.le_refl _) _
 have hho := heap_alloc_new w3 (.cells #[.int .u8 (κ : Int), .int .u64 (α : Int), .int .u64 ((0 : Nat) : Int), strV on] 43)
 have hzo : (w3.alloc (.cells #[.int .u8 (κ : Int), .int .u64 (α : Int), .int .u64 ((0 : Nat) : Int), strV on] 43)).heap.size = w3.heap.size + 1 := by simp
 have hx4 := hx3.below hbo (Nat.le_refl _)
 have HA4 := Lib.hid (hA3.below hbo (Nat.le_refl _))
 have HB4 := Lib.hid (HB3.out.trans (hbo.mono HB3.out.size))
 generalize World.alloc w3 _ = W4 at hbo hho hzo hx4 HA4 HB4 ⊢
 generalize w3.heap.size = ob at hbo hho hzo hx4 ⊢
 have HHO := Lib.hid hho
 have HZO := Lib.hid hzo
 have hn0 : (n : Int).tmod (x.length : Int) = ((n % x.length : Nat) : Int) := by rw [Int.tmod_eq_emod_of_nonneg (by omega)]; exact (Int.natCast_emod _ _).symm
 have hi := Nat.mod_lt n hx0
 generalize n % x.length = i at hn0 hi
 obtain ⟨r, hr⟩ : ∃ r, x[i]? = some r := ⟨_, List.getElem?_eq_getElem hi⟩
 obtain ⟨b, o, ka, kc, rfl, hbl, hks, r0, r1, r2, r3, r4, r5, r6⟩ := hx4.at_ hr
 have h90 : (kd : Int).tmod 9 = ((kd % 9 : Nat) : Int) := by rw [Int.tmod_eq_emod_of_nonneg (by omega)]; omega
 have h9 : kd % 9 < 9 := Nat.mod_lt _ (by omega)
 generalize kd % 9 = m9 at h90 h9
 have hi1 : (0 : Int) ≤ (i : Int) := by omega
 have hi2 : (i : Int) < (x.length : Int) := by omega
 obtain ⟨uk, huk, huk2⟩ : ∃ uk : Nat, (5 : Int) + (m9 : Int) = (uk : Int) ∧ (5 ≤ uk ∧ uk ≤ 13) := ⟨5 + m9, by omega, by omega⟩
 have HUK := Lib.hid huk2
 have HR := Lib.hid hr
 clear hbo hho hzo hx3 hx4 hA3 hr hks
 go_upto_region 6 with fail
 have hbu : Below W4.heap.size W4 (W4.alloc (.cells #[.int .u8 (uk : Int), .int .u64 (r.id : Int), .int .u64 ((2 : Nat) : Int), strV [120]] 43)) := (Below.refl _ _).alloc (Nat.le_refl _) _
 have hhu := heap_alloc_new W4 (.cells #[.int .u8 (uk : Int), .int .u64 (r.id : Int), .int .u64 ((2 : Nat) : Int), strV [120]] 43)
 have hzu : (W4.alloc (.cells #[.int .u8 (uk : Int), .int .u64 (r.id : Int), .int .u64 ((2 : Nat) : Int), strV [120]] 43)).heap.size = W4.heap.size + 1 := by simp
 have hA6 := HA4.out.below hbu (Nat.le_refl _)
 have HB6 := Lib.hid (HB4.out.trans (hbu.mono HB4.out.size))
 have hho6 := (hbu.block ob (by have := HZO.out; omega)).trans HHO.out
 generalize World.alloc W4 _ = W6 at hbu hhu hzu hA6 hho6 HB6 ⊢
 generalize W4.heap.size = ub at hbu hhu hzu ⊢
 have hT6 := HTT.out.below HB6.out HTT.out.lt
 have hid : r.id ≤ 20000 := by
  have := HXO.out.tr.rid i r HR.out
  omega
 have hw0 : wantsN uk = 0 := by
  have := HUK.out
  unfold wantsN
  rw [if_neg (by omega), if_neg (by omega), if_neg (by omega), if_neg (by omega), if_neg (by omega)]
 have HU := Lib.hid (show OfIs (tabM x) ⟨uk, r.id, 2, [120]⟩ [] [] false from of_other hw0)
 have HUS := Lib.hid (show Opn.Small ⟨uk, r.id, 2, [120]⟩ from ⟨by show uk ≤ 255; omega, by show r.id ≤ 1000000; omega, by show 1 ≤ 1000000; omega⟩)
 have HOS := Lib.hid (show Opn.Small ⟨κ, α, 0, on⟩ from ⟨by show κ ≤ 255; have := HOK.out.2; omega, by
  show α ≤ 1000000
  rcases HAL.out with e | ⟨r', hr', e⟩
  ·
   omega
  ·
   obtain ⟨j, hj, e2⟩ := List.mem_iff_getElem.1 hr'
   have := HXO.out.tr.rid j r' (by rw [List.getElem?_eq_getElem hj, e2])
   omega, by show on.length ≤ 1000000; have := HON.out; omega⟩)
 have HOF := Lib.hid (show ∃ ws cs kn, OfIs (tabM x) ⟨κ, α, 0, on⟩ ws cs kn by
  rcases of_cases HXO.out ⟨κ, α, 0, on⟩ rfl HOK.out with ⟨nd, rr, _, _, _, _, _, h⟩ | ⟨_, h⟩
  ·
   exact ⟨_, _, _, h⟩
  ·
   exact ⟨_, _, _, h⟩)
 have u0 := cell_of_row W6 ub 0 _ _ (0, 0) hhu
 have u1 := cell_of_row W6 ub 1 _ _ (0, 0) hhu
 have u2 := cell_of_row W6 ub 2 _ _ (0, 0) hhu
 have u3 := cell_of_row W6 ub 3 _ _ (0, 0) hhu
 simp at u0 u1 u2 u3
 have TOF := Lib.hid (of_any ab mb c (tabM x) ⟨uk, r.id, 2, [120]⟩ [] [] false W6 hA6 HO.out HUS.out hT6 HU.out)
 have HHU := Lib.hid hhu
 have HHO6 := Lib.hid hho6
 have HZU := Lib.hid hzu
 have HA6 := Lib.hid hA6
 clear hbu hhu hzu hho6 hA6 hT6 hw0 hid r0 r1 r2 r3 r4 r5 r6 hbl huk h90 hn0
 go_wp2_with fail
 refine TOF.out.mono ?_
 rintro e w7 ⟨pv, rfl, ⟨p1, q1, p2, q2, rfl, hs1, hs2⟩, hb7⟩
 have HB7 := Lib.hid (HB6.out.trans (hb7.mono HB6.out.size))
 have hA7 := HA6.out.below hb7 (Nat.le_refl _)
 have hho7 := (hb7.block ob (Array.getElem?_eq_some_iff.1 HHO6.out).1).trans HHO6.out
 have hhu7 := (hb7.block ub (Array.getElem?_eq_some_iff.1 HHU.out).1).trans HHU.out
 clear hb7 TOF u0 u1 u2 u3 hs1 hs2
 go_upto_region 7 with fail
 have hbq : Below w7.heap.size w7 (w7.alloc (.cells #[.slice p1 0 q1, .slice p2 0 q2, .bool false] 47)) := (Below.refl _ _).alloc (Nat.le_refl _) _
 have hhq := heap_alloc_new w7 (.cells #[.slice p1 0 q1, .slice p2 0 q2, .bool false] 47)
 have hA8 := hA7.below hbq (Nat.le_refl _)
 have HB8 := Lib.hid (HB7.out.trans (hbq.mono HB7.out.size))
 have hho8 := (hbq.block ob (Array.getElem?_eq_some_iff.1 hho7).1).trans hho7
 have hhu8 := (hbq.block ub (Array.getElem?_eq_some_iff.1 hhu7).1).trans hhu7
 generalize World.alloc w7 _ = W8 at hbq hhq hA8 HB8 hho8 hhu8 ⊢
 generalize w7.heap.size = qb at hbq hhq ⊢
 have k2 := cell_of_row W8 qb 2 _ _ (0, 0) hhq
 simp at k2
 have HA8 := Lib.hid hA8
 have HC := Lib.hid (show ∀ W, Below W8.heap.size W8 W → (W.cell? ⟨ob, 0, none⟩ = some (.int .u8 (κ : Int)) ∧ W.cell? ⟨ob, 1, none⟩ = some (.int .u64 (α : Int)) ∧ W.cell? ⟨ob, 2, none⟩ = some (.int .u64 ((0 : Nat) : Int)) ∧ W.cell? ⟨ob, 3, none⟩ = some (strV on)) ∧
  (W.cell? ⟨ub, 0, none⟩ = some (.int .u8 (uk : Int)) ∧ W.cell? ⟨ub, 1, none⟩ = some (.int .u64 (r.id : Int)) ∧ W.cell? ⟨ub, 2, none⟩ = some (.int .u64 ((2 : Nat) : Int)) ∧ W.cell? ⟨ub, 3, none⟩ = some (strV [120])) from fun W hW => by
  have g1 := (hW.block ob (Array.getElem?_eq_some_iff.1 hho8).1).trans hho8
  have g2 := (hW.block ub (Array.getElem?_eq_some_iff.1 hhu8).1).trans hhu8
  have a0 := cell_of_row W ob 0 _ _ (0, 0) g1
  have a1 := cell_of_row W ob 1 _ _ (0, 0) g1
  have a2 := cell_of_row W ob 2 _ _ (0, 0) g1
  have a3 := cell_of_row W ob 3 _ _ (0, 0) g1
  have b0 := cell_of_row W ub 0 _ _ (0, 0) g2
  have b1 := cell_of_row W ub 1 _ _ (0, 0) g2
  have b2 := cell_of_row W ub 2 _ _ (0, 0) g2
  have b3 := cell_of_row W ub 3 _ _ (0, 0) g2
  exact ⟨⟨a0, a1, a2, a3⟩, ⟨b0, b1, b2, b3⟩⟩)
 obtain ⟨ws, cs, kn, hof⟩ := HOF.out
 have TC1 := Lib.hid (fun W (hW : Below W8.heap.size W8 W) => commute_any ab mb c (tabM x) ⟨κ, α, 0, on⟩ ⟨uk, r.id, 2, [120]⟩ ws [] cs [] kn false W (HA8.out.below hW (Nat.le_refl _)) HO.out HOS.out HUS.out (HTT.out.below (HB8.out.trans (hW.mono HB8.out.size)) HTT.out.lt) hof HU.out)
 have TC2 := Lib.hid (fun W (hW : Below W8.heap.size W8 W) => commute_any ab mb c (tabM x) ⟨uk, r.id, 2, [120]⟩ ⟨κ, α, 0, on⟩ [] ws [] cs false kn W (HA8.out.below hW (Nat.le_refl _)) HO.out HUS.out HOS.out (HTT.out.below (HB8.out.trans (hW.mono HB8.out.size)) HTT.out.lt) HU.out hof)
 have TC3 := Lib.hid (fun W (hW : Below W8.heap.size W8 W) => commute_any ab mb c (tabM x) ⟨uk, r.id, 2, [120]⟩ ⟨uk, r.id, 2, [120]⟩ [] [] [] [] false false W (HA8.out.below hW (Nat.le_refl _)) HO.out HUS.out HUS.out (HTT.out.below (HB8.out.trans (hW.mono HB8.out.size)) HTT.out.lt) HU.out HU.out)
 have e1 : meetsB ws [] cs [] kn false = true := by unfold meetsB; cases kn <;> rfl
 have e2 : meetsB [] ws [] cs false kn = true := rfl
 have e3 : meetsB [] [] [] [] false false = true := rfl
 rw [e1] at TC1
 rw [e2] at TC2
 rw [e3] at TC3
 have TAP := Lib.hid (fun W => apart_any (.pointer (some ⟨ab, 0, none⟩)) (.slice none 0 0) (.slice none 0 0) [] [] (fun _ _ => true) W (Sl.nil _ _) (Sl.nil _ _) (by simp) (by simp) (fun x hx => by simp at hx))
 have TNIL := Lib.hid (fun W => of_nil ⟨κ, α, 0, on⟩ W HOS.out)
 obtain ⟨⟨o0, o1, o2, o3⟩, ⟨u0, u1, u2, u3⟩⟩ := HC.out W8 (Below.refl _ _)
 clear hbq hhq hA8 hho8 hhu8 hA7 hho7 hhu7 e1 e2 e3 hof
 go_wp2_with fail
 refine (TC1.out W8 (Below.refl _ _)).mono ?_
 rintro e w9 ⟨rfl, hb9⟩
 clear o0 o1 o2 o3 u0 u1 u2 u3 k2
 have HB9 := Lib.hid hb9
 obtain ⟨⟨o0, o1, o2, o3⟩, ⟨u0, u1, u2, u3⟩⟩ := HC.out w9 hb9
 clear hb9
 go_wp2_with fail
 refine (TC2.out w9 HB9.out).mono ?_
 rintro e w10 ⟨rfl, hb10⟩
 clear o0 o1 o2 o3 u0 u1 u2 u3
 have hb8 := HB9.out.trans (hb10.mono HB9.out.size)
 have HB10 := Lib.hid hb8
 obtain ⟨⟨o0, o1, o2, o3⟩, ⟨u0, u1, u2, u3⟩⟩ := HC.out w10 hb8
 clear hb10 hb8
 go_wp2_with fail
 refine (TC3.out w10 HB10.out).mono ?_
 rintro e w11 ⟨rfl, hb11⟩
 clear o0 o1 o2 o3 u0 u1 u2 u3
 have hb8 := HB10.out.trans (hb11.mono HB10.out.size)
 have HB11 := Lib.hid hb8
 clear hb11 hb8
 go_wp2_with fail
 refine (TAP.out w11).mono ?_
 rintro e w12 ⟨rfl, hb12⟩
 have hb8 := HB11.out.trans (hb12.mono HB11.out.size)
 have HB12 := Lib.hid hb8
 obtain ⟨⟨o0, o1, o2, o3⟩, _⟩ := HC.out w12 hb8
 clear hb12 hb8
 go_wp2_with fail
 refine (TNIL.out w12).mono ?_
 rintro e w13 ⟨pv, rfl, ⟨p3, q3, p4, q4, rfl, hs1, hs2⟩, hb13⟩
 have HB13 := Lib.hid (HB8.out.trans ((HB12.out.trans (hb13.mono HB12.out.size)).mono HB8.out.size))
 clear hs1 hs2 hb13 o0 o1 o2 o3
 have hf := print_field2
 go_wp2
 go_ret
 exact ⟨rfl, HB13.out⟩
end Go.Proofs.YtihmbbkppkgcmaaGreatDoor
