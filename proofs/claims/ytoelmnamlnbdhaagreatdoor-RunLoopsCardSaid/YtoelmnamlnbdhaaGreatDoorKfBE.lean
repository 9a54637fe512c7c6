/-
  Part of a proof of RunLoops: contracts of functions that the claim reaches, and plain lemmas.
-/
import Derived.Test.YtoelmnamlnbdhaaGreatDoorKfBD
set_option linter.all false
namespace Go.Proofs.YtoelmnamlnbdhaaGreatDoor
open Go.RowKit
open Hg (GT gl Bd)
structure AllSt (l : List GT) (nb : Nat) (Z : Nat → Prop) (B : Nat) (ids : Nat → Nat) (av : Value) (next fb mb : Nat) (X : Nat) (ms : List (List UInt8)) (fs : Hg.Funs) (σ : Hg.NmSt) (w wr : World) : Prop where
 st : ∃ cv ρ, NB l nb Z B ids av next fb (.map (some mb)) cv ρ σ fs wr
 md : SMap wr mb (usedM ms)
 fr : Fr (fun q => NOwn l nb B q ∨ q = fb ∨ q = mb) w wr
 ca : σ.calls.length ≤ X
 fl : fs.length ≤ X
def NAllRes (l : List GT) (nb : Nat) (Z : Nat → Prop) (B : Nat) (ids : Nat → Nat) (av : Value) (next fb mb : Nat) (r : Except Nat (List (Nat × Nat))) (w : World) (e : Ending) (w' : World) : Prop :=
 Fr (fun q => NOwn l nb B q ∨ q = fb ∨ q = mb) w w' ∧ match r with
 | .ok refs => e = .returned (.int .i64 0) ∧ ∃ cv uv sv, NmAt w' nb av next (.map (some fb)) (.map (some mb)) cv uv sv ∧ ∀ s ∈ l, NodeR w' ids (fun b => ((gl refs b).map ids).getD 0) nilK Z s
 | .error k => e = .returned (.int .i64 (errNo k : Int))
set_option maxHeartbeats 8000000 in
set_option maxRecDepth 100000 in
theorem all_any (l : List GT) (nb : Nat) (Z : Nat → Prop) (B : Nat) (hL : Low l nb Z B) (hA : Amb l nb Z) (ids : Nat → Nat) (av : Value) (next : Nat) (fb mb : Nat) (hZf : ¬ Z fb) (hZm : ¬ Z mb) (hfm : fb ≠ mb) (hmB : mb < B) (hlen : ∀ s ∈ l, s.nd.name.length ≤ 1000000 ∧ s.tt.length ≤ 1000000) (hlen2 : ∀ s ∈ l, s.md.length ≤ 1000000)
 (t : GT) (htl : t ∈ l) (hsz : t.subs.length ≤ 100000) (r : Except Nat (List (Nat × Nat))) (hr : Hg.nAll t = r) (h0 : r ≠ .error 0) (cv : Value) (w : World) (hS : NB l nb Z B ids av next fb (.map (some mb)) cv (fun _ => 0) ⟨[], [], [], []⟩ [] w) (hM : SMap w mb []) :
 Calls Tryz.prog 12 #[.pointer (some ⟨nb, 0, none⟩), ptrV t] w (NAllRes l nb Z B ids av next fb mb r w) := by
 have hzb : ∀ W : World, (zeroValue 4).run Tryz.prog W = .ok (.bool false) W := fun W => by kernel_rfl
 have hzp : ∀ W : World, (zeroValue 41).run Tryz.prog W = .ok (.pointer none) W := fun W => by kernel_rfl
 unfold Hg.nAll at hr
 obtain ⟨RM, hRM⟩ : ∃ RM, RM = Hg.nMods [] [] ⟨[], [], [], []⟩ t.ks := ⟨_, rfl⟩
 rw [← hRM] at hr
 have HR := Lib.hid hr
 have H0 := Lib.hid h0
 have HA := Lib.hid hA
 have HLW := Lib.hid hL
 have HT := Lib.hid htl
 have HLEN := Lib.hid (And.intro hlen hlen2)
 have hmne : ¬ NOwn l nb B mb := by
  obtain ⟨es, ck, hm⟩ := hM.obj
  obtain ⟨h1, h2⟩ := hS.map_ne hm
  rintro ((e | ⟨s, hs, e⟩) | e)
  ·
   exact h1 e.symm
  ·
   exact h2 s hs e.symm
  ·
   omega
 have HMN := Lib.hid hmne
 have HNF := Lib.hid hS.fne
 obtain ⟨a1, cc1, hh1, hs1, hq1⟩ := (hS.node t htl).open_
 have HQ := Lib.hid (show ∀ q, (Value.slice a1 t.ks.length cc1).ownBlock = some q → ¬ (NOwn l nb B q ∨ q = fb ∨ q = mb) from fun q e e' => by
  have hz := hq1 q e
  rcases e' with ((e' | ⟨s, hs, e'⟩) | e') | e' | e'
  ·
   exact hA.nbz (e' ▸ hz)
  ·
   exact hA.nz s hs (e' ▸ hz)
  ·
   have := hL.z q hz; omega
  ·
   exact hZf (e' ▸ hz)
  ·
   exact hZm (e' ▸ hz))
 have HSL := Lib.hid hs1
 have c8 := cell_of_row w t.b 8 _ _ (0, 0) hh1
 simp at c8
 have hkl : t.ks.length ≤ 100000 := by
  have h1 := GT.len_le t.ks
  have hlenk : t.subs.length = (GT.blocksL t.ks).length + 1 := by rw [GT.subs_eq, GT.blocksL_len]; rfl
  omega
 have HSZ := Lib.hid hsz
 have HST := Lib.hid (show AllSt l nb Z B ids av next fb mb 0 [] [] ⟨[], [], [], []⟩ w w from ⟨⟨_, _, hS⟩, hM, Fr.refl _ _, Nat.zero_le _, Nat.zero_le _⟩)
 have HRM := Lib.hid hRM.symm
 have HZF := Lib.hid (And.intro hZf (And.intro hZm hfm))
 clear hS hM hA hL htl hlen hlen2 hsz hr h0 hRM hh1 hs1 hq1 hmne hZf hZm hfm hmB
 go_enter Tryz.func12, Tryz.ntmps12
 go_wp2
 clear c8
 go_loopw [18] (fun p wr => ∃ (i : Nat) (ms : List (List UInt8)) (fs : Hg.Funs) (σ : Hg.NmSt), p = .int .i64 (i : Int) ∧ i ≤ t.ks.length ∧ ms.length ≤ i ∧ AllSt l nb Z B ids av next fb mb (2 * (GT.blocksL (t.ks.take i)).length) ms fs σ w wr ∧ Hg.nMods ms fs σ (t.ks.drop i) = RM) (fun p wr => t.ks.length - (intOf p).toNat)
 case atStart => exact ⟨0, [], [], _, rfl, Nat.zero_le _, Nat.le_refl _, by simpa [GT.blocksL, GT.subsL_nil] using HST.out, HRM.out⟩
 case round =>
  obtain ⟨i, ms, fs, σ, rfl, hi, hms, hSt, hrm⟩ := hrel
  clear HST HRM
  by_cases hlt : i < t.ks.length
  ·
   obtain ⟨b, o, rfl, _, kc⟩ := (HSL.out.fr (Nat.le_refl _) hSt.fr HQ.out).mapAt hlt
   have hmk : t.ks[i] ∈ t.ks := List.getElem_mem hlt
   have hml : t.ks[i] ∈ l := HA.out.kids t HT.out _ hmk
   have hszm : (GT.blocksL (t.ks.take (i + 1))).length = (GT.blocksL (t.ks.take i)).length + t.ks[i].subs.length := by rw [GT.blocksL_take hlt, List.length_append, GT.blocks_len]
   have hsz2 := GT.subsL_take_le t.ks (i + 1)
   have hlenk : t.subs.length = (GT.blocksL t.ks).length + 1 := by rw [GT.subs_eq, GT.blocksL_len]; rfl
   rw [List.drop_eq_getElem_cons hlt, Hg.nMods] at hrm
   generalize t.ks[i] = m at kc hmk hml hszm hrm
   have HSM := Lib.hid (And.intro hszm (And.intro hsz2 hlenk))
   obtain ⟨cv1, ρ1, hN1⟩ := hSt.st
   obtain ⟨uv1, sv1, hnm1⟩ := hN1.nm
   obtain ⟨am, cm, hhm, -, -⟩ := (hN1.node m hml).open_
   have c1 := cell_of_row wr m.b 1 _ _ (0, 0) hhm
   have c3 := cell_of_row wr nb 3 _ _ (0, 0) hnm1
   simp at c1 c3
   have hnl1 := (HLEN.out.1 m hml).1
   have hlk := (hSt.md.keep (w' := wr.drew) rfl).look (t := 47) str_keyed Tryz.underlying47 (hzb _) (keyOf_strV m.nd.name hnl1)
   unfold usedM at hlk
   rw [Hg.gl_key] at hlk
   have HSt := Lib.hid hSt
   have hHeld : (fun w' => w'.cell? ⟨nb, 3, none⟩ = some (.map (some mb)) ∧ w'.cell? ⟨m.b, 1, none⟩ = some (strV m.nd.name)) wr.drew := ⟨c3, c1⟩
   by_cases hdup : m.nd.name ∈ ms
   ·
    rw [if_pos hdup] at hrm hlk
    replace hlk : (Instr.lookup 47 (.map (some mb)) (strV m.nd.name) false).run Tryz.prog wr.drew = .ok (.bool true) wr.drew := hlk
    have hre : r = .error 1 := by rw [← HR.out, ← hrm]
    subst hre
    clear hrm hSt hN1 hnm1 hhm hszm hsz2 hlenk hml hmk
    go_wp2
    refine wp_region_two (fun w' => w'.cell? ⟨nb, 3, none⟩ = some (.map (some mb)) ∧ w'.cell? ⟨m.b, 1, none⟩ = some (strV m.nd.name)) 9 (by kernel_rfl) ?_
    refine tk 0 ?_ rfl (by kernel_rfl) (fun _ _ _ h => h) ‹_› (by rfl) ?_ ?_
    rotate_left
    · (intro w' hSw; (try dsimp only at hSw); go_simp; try with_reducible rfl)
    try simp only [Act.put, sA, sB, sC, sD, sE, sF]
    refine tk 1 ?_ rfl (by kernel_rfl) (fun _ _ _ h => h) ‹_› (by rfl) ?_ ?_
    rotate_left
    · (intro w' hSw; (try dsimp only at hSw); go_simp; try with_reducible rfl)
    try simp only [Act.put, sA, sB, sC, sD, sE, sF]
    refine tk 2 ?_ rfl (by kernel_rfl) (fun _ _ _ h => h) ‹_› (by rfl) ?_ ?_
    rotate_left
    · (intro w' hSw; (try dsimp only at hSw); go_simp; try with_reducible rfl)
    try simp only [Act.put, sA, sB, sC, sD, sE, sF]
    refine tk 3 ?_ rfl (by kernel_rfl) (fun _ _ _ h => h) ‹_› (by rfl) ?_ ?_
    rotate_left
    · (intro w' hSw; (try dsimp only at hSw); go_simp; try with_reducible rfl)
    try simp only [Act.put, sA, sB, sC, sD, sE, sF]
    refine tk 4 ?_ rfl (by kernel_rfl) (fun _ _ _ h => h) ‹_› (by rfl) ?_ ?_
    rotate_left
    · (intro w' hSw; (try dsimp only at hSw); go_simp; try with_reducible rfl)
    try simp only [Act.put, sA, sB, sC, sD, sE, sF]
    refine tk 5 ?_ rfl (by kernel_rfl) (fun _ _ _ h => h) ‹_› (by rfl) ?_ ?_
    rotate_left
    · (intro w' hSw; (try dsimp only at hSw); go_simp; try with_reducible rfl)
    try simp only [Act.put, sA, sB, sC, sD, sE, sF]
    refine tk 6 ?_ rfl (by kernel_rfl) (fun _ _ _ h => h) ‹_› (by rfl) ?_ ?_
    rotate_left
    · (intro w' hSw; (try dsimp only at hSw); go_simp; try with_reducible rfl)
    try simp only [Act.put, sA, sB, sC, sD, sE, sF]
    refine tk 7 ?_ rfl (by kernel_rfl) (fun _ _ _ h => h) ‹_› (by rfl) ?_ ?_
    rotate_left
    · (intro w' hSw; (try dsimp only at hSw); go_simp; try with_reducible rfl)
    try simp only [Act.put, sA, sB, sC, sD, sE, sF]
    refine tk 8 ?_ rfl (by kernel_rfl) (fun _ _ _ h => h) ‹_› (by rfl) ?_ ?_
    rotate_left
    · (intro w' hSw; (try dsimp only at hSw); go_simp; try with_reducible rfl)
    try simp only [Act.put, sA, sB, sC, sD, sE, sF]
    refine wpAnyT_tail (by kernel_rfl) ?_
    simp only [List.drop_succ_cons, List.drop_zero]
    go_wp2
    go_ret
    exact ⟨HSt.out.fr.drew, rfl⟩
   rw [if_neg hdup] at hrm hlk
   replace hlk : (Instr.lookup 47 (.map (some mb)) (strV m.nd.name) false).run Tryz.prog wr.drew = .ok (.bool false) wr.drew := hlk
   have HRM := Lib.hid hrm
   have HML := Lib.hid hml
   clear hrm hSt hN1 hnm1 hhm hszm hsz2 hlenk hml hmk
   go_wp2
   refine wp_region_two (fun w' => w'.cell? ⟨nb, 3, none⟩ = some (.map (some mb)) ∧ w'.cell? ⟨m.b, 1, none⟩ = some (strV m.nd.name)) 9 (by kernel_rfl) ?_
   refine tk 0 ?_ rfl (by kernel_rfl) (fun _ _ _ h => h) ‹_› (by rfl) ?_ ?_
   rotate_left
   · (intro w' hSw; (try dsimp only at hSw); go_simp; try with_reducible rfl)
   try simp only [Act.put, sA, sB, sC, sD, sE, sF]
   refine tk 1 ?_ rfl (by kernel_rfl) (fun _ _ _ h => h) ‹_› (by rfl) ?_ ?_
   rotate_left
   · (intro w' hSw; (try dsimp only at hSw); go_simp; try with_reducible rfl)
   try simp only [Act.put, sA, sB, sC, sD, sE, sF]
   refine tk 2 ?_ rfl (by kernel_rfl) (fun _ _ _ h => h) ‹_› (by rfl) ?_ ?_
   rotate_left
   · (intro w' hSw; (try dsimp only at hSw); go_simp; try with_reducible rfl)
   try simp only [Act.put, sA, sB, sC, sD, sE, sF]
   refine tk 3 ?_ rfl (by kernel_rfl) (fun _ _ _ h => h) ‹_› (by rfl) ?_ ?_
   rotate_left
   · (intro w' hSw; (try dsimp only at hSw); go_simp; try with_reducible rfl)
   try simp only [Act.put, sA, sB, sC, sD, sE, sF]
   refine tk 4 ?_ rfl (by kernel_rfl) (fun _ _ _ h => h) ‹_› (by rfl) ?_ ?_
   rotate_left
   · (intro w' hSw; (try dsimp only at hSw); go_simp; try with_reducible rfl)
   try simp only [Act.put, sA, sB, sC, sD, sE, sF]
   refine tk 5 ?_ rfl (by kernel_rfl) (fun _ _ _ h => h) ‹_› (by rfl) ?_ ?_
   rotate_left
   · (intro w' hSw; (try dsimp only at hSw); go_simp; try with_reducible rfl)
   try simp only [Act.put, sA, sB, sC, sD, sE, sF]
   refine tk 6 ?_ rfl (by kernel_rfl) (fun _ _ _ h => h) ‹_› (by rfl) ?_ ?_
   rotate_left
   · (intro w' hSw; (try dsimp only at hSw); go_simp; try with_reducible rfl)
   try simp only [Act.put, sA, sB, sC, sD, sE, sF]
   refine tk 7 ?_ rfl (by kernel_rfl) (fun _ _ _ h => h) ‹_› (by rfl) ?_ ?_
   rotate_left
   · (intro w' hSw; (try dsimp only at hSw); go_simp; try with_reducible rfl)
   try simp only [Act.put, sA, sB, sC, sD, sE, sF]
   refine tk 8 ?_ rfl (by kernel_rfl) (fun _ _ _ h => h) ‹_› (by rfl) ?_ ?_
   rotate_left
   · (intro w' hSw; (try dsimp only at hSw); go_simp; try with_reducible rfl)
   try simp only [Act.put, sA, sB, sC, sD, sE, sF]
   refine wpAnyT_tail (by kernel_rfl) ?_
   simp only [List.drop_succ_cons, List.drop_zero]
   go_wp2
   clear hHeld hlk
   have hHeld : (fun w' => w'.cell? ⟨nb, 3, none⟩ = some (.map (some mb)) ∧ w'.cell? ⟨m.b, 1, none⟩ = some (strV m.nd.name)) wr.drew.drew := ⟨c3, c1⟩
   refine wp_region_two (fun w' => w'.cell? ⟨nb, 3, none⟩ = some (.map (some mb)) ∧ w'.cell? ⟨m.b, 1, none⟩ = some (strV m.nd.name)) 9 (by kernel_rfl) ?_
   refine tk 0 ?_ rfl (by kernel_rfl) (fun _ _ _ h => h) ‹_› (by rfl) ?_ ?_
   rotate_left
   · (intro w' hSw; (try dsimp only at hSw); go_simp; try with_reducible rfl)
   try simp only [Act.put, sA, sB, sC, sD, sE, sF]
   refine tk 1 ?_ rfl (by kernel_rfl) (fun _ _ _ h => h) ‹_› (by rfl) ?_ ?_
   rotate_left
   · (intro w' hSw; (try dsimp only at hSw); go_simp; try with_reducible rfl)
   try simp only [Act.put, sA, sB, sC, sD, sE, sF]
   refine tk 2 ?_ rfl (by kernel_rfl) (fun _ _ _ h => h) ‹_› (by rfl) ?_ ?_
   rotate_left
   · (intro w' hSw; (try dsimp only at hSw); go_simp; try with_reducible rfl)
   try simp only [Act.put, sA, sB, sC, sD, sE, sF]
   refine tk 3 ?_ rfl (by kernel_rfl) (fun _ _ _ h => h) ‹_› (by rfl) ?_ ?_
   rotate_left
   · (intro w' hSw; (try dsimp only at hSw); go_simp; try with_reducible rfl)
   try simp only [Act.put, sA, sB, sC, sD, sE, sF]
   refine tk 4 ?_ rfl (by kernel_rfl) (fun _ _ _ h => h) ‹_› (by rfl) ?_ ?_
   rotate_left
   · (intro w' hSw; (try dsimp only at hSw); go_simp; try with_reducible rfl)
   try simp only [Act.put, sA, sB, sC, sD, sE, sF]
   refine tk 5 ?_ rfl (by kernel_rfl) (fun _ _ _ h => h) ‹_› (by rfl) ?_ ?_
   rotate_left
   · (intro w' hSw; (try dsimp only at hSw); go_simp; try with_reducible rfl)
   try simp only [Act.put, sA, sB, sC, sD, sE, sF]
   refine tk 6 ?_ rfl (by kernel_rfl) (fun _ _ _ h => h) ‹_› (by rfl) ?_ ?_
   rotate_left
   · (intro w' hSw; (try dsimp only at hSw); go_simp; try with_reducible rfl)
   try simp only [Act.put, sA, sB, sC, sD, sE, sF]
   refine tk 7 ?_ rfl (by kernel_rfl) (fun _ _ _ h => h) ‹_› (by rfl) ?_ ?_
   rotate_left
   · (intro w' hSw; (try dsimp only at hSw); go_simp; try with_reducible rfl)
   try simp only [Act.put, sA, sB, sC, sD, sE, sF]
   refine tk 8 ?_ rfl (by kernel_rfl) (fun _ _ _ h => h) ‹_› (by rfl) ?_ ?_
   rotate_left
   · (intro w' hSw; (try dsimp only at hSw); go_simp; try with_reducible rfl)
   try simp only [Act.put, sA, sB, sC, sD, sE, sF]
   refine wpAnyT_tail (by kernel_rfl) ?_
   simp only [List.drop_succ_cons, List.drop_zero]
   obtain ⟨W2, hrun2, hM2, hg2⟩ := (HSt.out.md.keep (w' := wr.drew.drew) rfl).put (t := 47) str_keyed Tryz.underlying47 (fun x y h => strV_inj h) (by unfold usedM; simp; omega) m.nd.name (keyOf_strV m.nd.name hnl1) (.bool true)
   have HST2 := Lib.hid (show AllSt l nb Z B ids av next fb mb (2 * (GT.blocksL (t.ks.take i)).length) (m.nd.name :: ms) fs σ w W2 from ⟨by
    obtain ⟨cv1, ρ1, hN1⟩ := HSt.out.st
    obtain ⟨es, ck, hme⟩ := HSt.out.md.obj
    obtain ⟨k1, k2⟩ := hN1.map_ne hme
    obtain ⟨uv1, sv1, hnm1⟩ := hN1.nm
    have hN2 := hN1.drew.drew
    refine ⟨cv1, ρ1, ⟨uv1, sv1, (hg2.block nb hnm1.lt (fun e => by injection e with e; exact k1 e)).trans hnm1⟩, hN2.fm.keep (hg2.block fb hN2.fm.lt (fun e => by injection e with e; exact HZF.out.2.2 e)), hN2.fl, hN2.cs.kept hg2 (own_not_map hN2.cs hme), fun s hs => ?_, hN2.ref, hN2.kin, hN2.fin, Nat.le_trans hN2.sz hg2.size⟩
    exact (hN2.node s hs).frr (D := fun q => q = mb) (Fr.of_grown hg2 (fun q e => by injection e with e; exact e.symm)) (k2 s hs) (fun q hz e => HZF.out.2.1 (e ▸ hz)), hM2, HSt.out.fr.drew.drew.step hg2 (fun q e => .inl (.inr (.inr (by injection e with e; exact e.symm)))), HSt.out.ca, HSt.out.fl⟩)
   obtain ⟨cv2, ρ2, hN2⟩ := HST2.out.st
   obtain ⟨a2, cc2, hh2, hs2, hq2⟩ := (hN2.node m HML.out).open_
   have HQ2 := Lib.hid (show ∀ q, (Value.slice a2 m.ks.length cc2).ownBlock = some q → ¬ (NOwn l nb B q ∨ q = fb ∨ q = mb) from fun q e e' => by
    have hz := hq2 q e
    rcases e' with ((e' | ⟨s, hs, e'⟩) | e') | e' | e'
    ·
     exact HA.out.nbz (e' ▸ hz)
    ·
     exact HA.out.nz s hs (e' ▸ hz)
    ·
     have := HLW.out.z q hz; omega
    ·
     exact HZF.out.1 (e' ▸ hz)
    ·
     exact HZF.out.2.1 (e' ▸ hz))
   have HSL2 := Lib.hid hs2
   have c8 := cell_of_row W2 m.b 8 _ _ (0, 0) hh2
   simp at c8
   have hkl2 : m.ks.length ≤ 100000 := by
    have h1 := GT.len_le m.ks
    have h2 : m.subs.length = (GT.blocksL m.ks).length + 1 := by rw [GT.subs_eq, GT.blocksL_len]; rfl
    have h3 := HSM.out
    have h4 := HSZ.out
    omega
   obtain ⟨RF, hRF⟩ : ∃ RF, Hg.nFuncs fs σ m.nd.name m.ks = RF := ⟨_, rfl⟩
   have hrm := HRM.out
   rw [hRF] at hrm
   have HRF := Lib.hid hRF
   have HRM2 := Lib.hid hrm
   clear hHeld hM2 hg2 hN2 hh2 hs2 hq2 c1 c3 HSt HRM hRF hrm
   go_wp2
   clear c8
   go_loopw [46] (fun p wr => ∃ (j : Nat) (fs : Hg.Funs) (σ : Hg.NmSt), p = .int .i64 (j : Int) ∧ j ≤ m.ks.length ∧ AllSt l nb Z B ids av next fb mb (2 * (GT.blocksL (t.ks.take i)).length + 2 * (GT.blocksL (m.ks.take j)).length) (m.nd.name :: ms) fs σ w wr ∧ Fr (fun q => NOwn l nb B q ∨ q = fb ∨ q = mb) W2 wr ∧ Hg.nFuncs fs σ m.nd.name (m.ks.drop j) = RF) (fun p wr => m.ks.length - (intOf p).toNat)
   case atStart => exact ⟨0, _, _, rfl, Nat.zero_le _, by simpa [GT.blocksL, GT.subsL_nil] using HST2.out, Fr.refl _ _, HRF.out⟩
   case round =>
    obtain ⟨j, fs2, σ2, rfl, hj, hSt, hf2, hrf⟩ := hrel
    clear HST2 HRF
    by_cases hltj : j < m.ks.length
    ·
     obtain ⟨b2, o2, rfl, _, kc2⟩ := (HSL2.out.fr (Nat.le_refl _) hf2 HQ2.out).mapAt hltj
     have hfk : m.ks[j] ∈ m.ks := List.getElem_mem hltj
     have hfl : m.ks[j] ∈ l := HA.out.kids m HML.out _ hfk
     have hszf : (GT.blocksL (m.ks.take (j + 1))).length = (GT.blocksL (m.ks.take j)).length + m.ks[j].subs.length := by rw [GT.blocksL_take hltj, List.length_append, GT.blocks_len]
     have hszf2 := GT.subsL_take_le m.ks (j + 1)
     have hlenm : m.subs.length = (GT.blocksL m.ks).length + 1 := by rw [GT.subs_eq, GT.blocksL_len]; rfl
     rw [List.drop_eq_getElem_cons hltj, Hg.nFuncs] at hrf
     generalize m.ks[j] = f at kc2 hfk hfl hszf hrf
     obtain ⟨cv3, ρ3, hN3⟩ := hSt.st
     obtain ⟨am3, cm3, hhm3, -, -⟩ := (hN3.node m HML.out).open_
     have c1 := cell_of_row wr m.b 1 _ _ (0, 0) hhm3
     simp at c1
     have hsm := HSM.out
     have hSZ := HSZ.out
     have h0f : Hg.nFunc fs2 σ2 m.nd.name f ≠ .error 0 := fun e => by
      rw [e] at hrf
      have h1 : RF = .error 0 := hrf.symm
      have h2 := HRM2.out
      rw [h1] at h2
      have h3 : RM = .error 0 := h2.symm
      have h4 := HR.out
      rw [h3] at h4
      exact H0.out h4.symm
     have hca := hSt.ca
     have hfll := hSt.fl
     have TF := Lib.hid (nfunc_any l nb Z B HLW.out HA.out ids av next fb HZF.out.1 (.map (some mb)) HLEN.out.1 m.nd.name hnl1 f hfl cv3 ρ3 σ2 fs2 _ wr h0f hca (by omega) (by omega) hN3)
     have HSS := Lib.hid hSt
     have HF2 := Lib.hid hf2
     have HRF := Lib.hid hrf
     have HSF := Lib.hid hszf
     clear hSt hf2 hN3 hhm3 hsm hSZ hszf hszf2 hlenm hfk hfl h0f hca hfll hrf
     go_wp2_with fail
     refine TF.out.mono ?_
     rintro e w5 ⟨hfr5, hres⟩
     have hfr5' : Fr (fun q => NOwn l nb B q ∨ q = fb ∨ q = mb) wr w5 := hfr5.imp (fun q _ e => by rcases e with e | e; exact .inl e; exact .inr (.inl e))
     have HF5 := Lib.hid (HF2.out.trans hfr5')
     have HW5 := Lib.hid (HSS.out.fr.trans hfr5')
     have hmd5 := HSS.out.md.fr hfr5 (fun e => by
      rcases e with e | e
      ·
       exact HMN.out e
      ·
       exact HZF.out.2.2 e.symm)
     have HMD5 := Lib.hid hmd5
     have hrf := HRF.out
     cases hnf : Hg.nFunc fs2 σ2 m.nd.name f with
     | error ek =>
       rw [hnf] at hres hrf
       replace hres : e = .returned (.int .i64 (errNo ek : Int)) := hres
       subst hres
       have hre : r = .error ek := by
        have h1 : RF = .error ek := hrf.symm
        have h2 := HRM2.out
        rw [h1] at h2
        have h3 : RM = .error ek := h2.symm
        have h4 := HR.out
        rw [h3] at h4
        exact h4.symm
       have hq : ((errNo ek : Int) != 0) = true := by unfold errNo; split <;> rfl
       subst hre
       clear TF hfr5 hfr5' hmd5 hrf hnf
       go_wp2
       go_ret
       exact ⟨HW5.out, rfl⟩
     | ok pr =>
       obtain ⟨fs5, σ5⟩ := pr
       rw [hnf] at hres hrf
       obtain ⟨rfl, cv5, ρ5, hN5⟩ := hres
       have hbd := Hg.nFunc_bd HSS.out.ca hnf
       have HST5 := Lib.hid (show AllSt l nb Z B ids av next fb mb (2 * (GT.blocksL (t.ks.take i)).length + 2 * (GT.blocksL (m.ks.take (j + 1))).length) (m.nd.name :: ms) fs5 σ5 w w5 from ⟨⟨_, _, hN5⟩, HMD5.out, HW5.out, by have := hbd.1; have := HSF.out; omega, by
        have h1 := hbd.2
        have h2 := HSF.out
        have h3 := HSS.out.fl
        have h4 : 1 ≤ f.subs.length := by rw [GT.subs_eq]; simp
        omega⟩)
       have HRF5 := Lib.hid (show Hg.nFuncs fs5 σ5 m.nd.name (m.ks.drop (j + 1)) = RF from hrf)
       clear TF hfr5 hfr5' hmd5 hrf hnf hN5 hbd
       go_wp2
       go_roundw
       case rel => exact ⟨j + 1, fs5, σ5, by go_num, by omega, HST5.out, HF5.out, HRF5.out⟩
       case measure => simp [intOf]; omega
    ·
     obtain rfl : j = m.ks.length := by omega
     rw [List.drop_length] at hrf
     have hrf : Except.ok (fs2, σ2) = RF := hrf
     have HRM5 := Lib.hid (show Hg.nMods (m.nd.name :: ms) fs2 σ2 (t.ks.drop (i + 1)) = RM from by
      have h := HRM2.out
      rw [← hrf] at h
      exact h)
     have HST5 := Lib.hid (show AllSt l nb Z B ids av next fb mb (2 * (GT.blocksL (t.ks.take (i + 1))).length) (m.nd.name :: ms) fs2 σ2 w wr from ⟨hSt.st, hSt.md, hSt.fr, by
      have h1 := hSt.ca
      have h2 := HSM.out
      have hlenm : m.subs.length = (GT.blocksL m.ks).length + 1 := by rw [GT.subs_eq, GT.blocksL_len]; rfl
      rw [List.take_length] at h1
      omega, by
      have h1 := hSt.fl
      have h2 := HSM.out
      have hlenm : m.subs.length = (GT.blocksL m.ks).length + 1 := by rw [GT.subs_eq, GT.blocksL_len]; rfl
      rw [List.take_length] at h1
      omega⟩)
     clear hSt hf2 hrf
     go_wp2
     go_roundw
     case rel => exact ⟨i + 1, _, _, _, by go_num, by omega, by simp; omega, HST5.out, HRM5.out⟩
     case measure => simp [intOf]; omega
  ·
   obtain rfl : i = t.ks.length := by omega
   rw [List.drop_length] at hrm
   have hrm : Except.ok (fs, σ) = RM := hrm
   have HCL := Lib.hid (show Hg.nCalls fs σ.refs σ.calls = r from by
    have h := HR.out
    rw [← hrm] at h
    exact h)
   obtain ⟨cv1, ρ1, hN1⟩ := hSt.st
   obtain ⟨uv1, sv1, hnm1⟩ := hN1.nm
   have c4 := cell_of_row wr nb 4 _ _ (0, 0) hnm1
   simp at c4
   have hsl := Sl.of_own hN1.cs
   obtain ⟨ca, cz, rfl⟩ := hsl.form
   have hcq := hN1.cs.lt
   have hcl : σ.calls.length ≤ 1000000 := by
    have h1 := hSt.ca
    have h2 := GT.subsL_take_le t.ks t.ks.length
    have hlenk : t.subs.length = (GT.blocksL t.ks).length + 1 := by rw [GT.subs_eq, GT.blocksL_len]; rfl
    have h4 := HSZ.out
    omega
   have HN1 := Lib.hid hN1
   have HFR := Lib.hid hSt.fr
   clear hSt hrm hN1 hnm1 hsl hcq
   go_wp2
   clear c4
   go_loopw [68] (fun p wr => ∃ (k : Nat) (refs : List (Nat × Nat)) (ρ : Nat → Nat), p = .int .i64 (k : Int) ∧ k ≤ σ.calls.length ∧ NB l nb Z B ids av next fb (.map (some mb)) (.slice ca σ.calls.length cz) ρ { σ with refs := refs } fs wr ∧ Fr (fun q => NOwn l nb B q ∨ q = fb ∨ q = mb) w wr ∧ Hg.nCalls fs refs (σ.calls.drop k) = r) (fun p wr => σ.calls.length - (intOf p).toNat)
   case atStart => exact ⟨0, _, _, rfl, Nat.zero_le _, HN1.out, HFR.out, HCL.out⟩
   case round =>
    obtain ⟨k, refs, ρ, rfl, hk, hN, hfr, hcl2⟩ := hrel
    clear HN1 HFR HCL
    by_cases hltk : k < σ.calls.length
    ·
     obtain ⟨b, o, rfl, _, kc⟩ := (Sl.of_own hN.cs).mapAt hltk
     have hck : σ.calls[k] ∈ l := hN.kin _ (List.getElem_mem hltk)
     rw [List.drop_eq_getElem_cons hltk, Hg.nCalls_cons] at hcl2
     replace kc : wr.cell? ⟨b, o + k, none⟩ = some (ptrV σ.calls[k]) := kc
     generalize σ.calls[k] = c at kc hck hcl2
     have HCK := Lib.hid hck
     obtain ⟨uv, sv, hnm⟩ := hN.nm
     obtain ⟨ac, cc, hhc, -, -⟩ := (hN.node c hck).open_
     have c2 := cell_of_row wr nb 2 _ _ (0, 0) hnm
     have d6 := cell_of_row wr c.b 6 _ _ (0, 0) hhc
     have d7 := cell_of_row wr c.b 7 _ _ (0, 0) hhc
     have d4 := cell_of_row wr c.b 4 _ _ (0, 0) hhc
     have fz : ∀ i, wr.frozen? ⟨c.b, i, none⟩ = false := fun i => by simp [World.frozen?, hhc]
     simp at c2 d6 d7 d4
     have hkey := keyOf_full c.md c.tt (HLEN.out.2 c hck) (HLEN.out.1 c hck).2
     have hlk := (hN.fm.keep (w' := wr.drew) rfl).look (x := (c.md, c.tt)) (t := 46) full_keyed Tryz.underlying46 (hzp _) hkey
     rw [gl_funM] at hlk
     have hHeld : (fun w' => w'.cell? ⟨nb, 2, none⟩ = some (.map (some fb)) ∧ w'.cell? ⟨c.b, 6, none⟩ = some (strV c.md) ∧ w'.cell? ⟨c.b, 7, none⟩ = some (strV c.tt)) wr.drew := ⟨c2, d6, d7⟩
     have HN := Lib.hid hN
     have HFR := Lib.hid hfr
     cases hgc : gl fs (c.md, c.tt) with
     | none =>
       rw [hgc] at hlk hcl2
       replace hlk : (Instr.lookup 46 (.map (some fb)) (.agg #[strV c.md, strV c.tt]) false).run Tryz.prog wr.drew = .ok (.pointer none) wr.drew := hlk
       have hre : r = .error 2 := hcl2.symm
       subst hre
       clear hN hfr hnm hhc hck hkey hgc hcl2 d4
       go_wp2
       refine wp_region_two (fun w' => w'.cell? ⟨nb, 2, none⟩ = some (.map (some fb)) ∧ w'.cell? ⟨c.b, 6, none⟩ = some (strV c.md) ∧ w'.cell? ⟨c.b, 7, none⟩ = some (strV c.tt)) 13 (by kernel_rfl) ?_
       refine tk 0 ?_ rfl (by kernel_rfl) (fun _ _ _ h => h) ‹_› (by rfl) ?_ ?_
       rotate_left
       · (intro w' hSw; (try dsimp only at hSw); go_simp; try with_reducible rfl)
       try simp only [Act.put, sA, sB, sC, sD, sE, sF]
       refine tk 1 ?_ rfl (by kernel_rfl) (fun _ _ _ h => h) ‹_› (by rfl) ?_ ?_
       rotate_left
       · (intro w' hSw; (try dsimp only at hSw); go_simp; try with_reducible rfl)
       try simp only [Act.put, sA, sB, sC, sD, sE, sF]
       refine tk 2 ?_ rfl (by kernel_rfl) (fun _ _ _ h => h) ‹_› (by rfl) ?_ ?_
       rotate_left
       · (intro w' hSw; (try dsimp only at hSw); go_simp; try with_reducible rfl)
       try simp only [Act.put, sA, sB, sC, sD, sE, sF]
       refine tk 3 ?_ rfl (by kernel_rfl) (fun _ _ _ h => h) ‹_› (by rfl) ?_ ?_
       rotate_left
       · (intro w' hSw; (try dsimp only at hSw); go_simp; try with_reducible rfl)
       try simp only [Act.put, sA, sB, sC, sD, sE, sF]
       refine tk 4 ?_ rfl (by kernel_rfl) (fun _ _ _ h => h) ‹_› (by rfl) ?_ ?_
       rotate_left
       · (intro w' hSw; (try dsimp only at hSw); go_simp; try with_reducible rfl)
       try simp only [Act.put, sA, sB, sC, sD, sE, sF]
       refine tk 5 ?_ rfl (by kernel_rfl) (fun _ _ _ h => h) ‹_› (by rfl) ?_ ?_
       rotate_left
       · (intro w' hSw; (try dsimp only at hSw); go_simp; try with_reducible rfl)
       try simp only [Act.put, sA, sB, sC, sD, sE, sF]
       refine tk 6 ?_ rfl (by kernel_rfl) (fun _ _ _ h => h) ‹_› (by rfl) ?_ ?_
       rotate_left
       · (intro w' hSw; (try dsimp only at hSw); go_simp; try with_reducible rfl)
       try simp only [Act.put, sA, sB, sC, sD, sE, sF]
       refine tk 7 ?_ rfl (by kernel_rfl) (fun _ _ _ h => h) ‹_› (by rfl) ?_ ?_
       rotate_left
       · (intro w' hSw; (try dsimp only at hSw); go_simp; try with_reducible rfl)
       try simp only [Act.put, sA, sB, sC, sD, sE, sF]
       refine tk 8 ?_ rfl (by kernel_rfl) (fun _ _ _ h => h) ‹_› (by rfl) ?_ ?_
       rotate_left
       · (intro w' hSw; (try dsimp only at hSw); go_simp; try with_reducible rfl)
       try simp only [Act.put, sA, sB, sC, sD, sE, sF]
       refine tk 9 ?_ rfl (by kernel_rfl) (fun _ _ _ h => h) ‹_› (by rfl) ?_ ?_
       rotate_left
       · (intro w' hSw; (try dsimp only at hSw); go_simp; try with_reducible rfl)
       try simp only [Act.put, sA, sB, sC, sD, sE, sF]
       refine tk 10 ?_ rfl (by kernel_rfl) (fun _ _ _ h => h) ‹_› (by rfl) ?_ ?_
       rotate_left
       · (intro w' hSw; (try dsimp only at hSw); go_simp; try with_reducible rfl)
       try simp only [Act.put, sA, sB, sC, sD, sE, sF]
       refine tk 11 ?_ rfl (by kernel_rfl) (fun _ _ _ h => h) ‹_› (by rfl) ?_ ?_
       rotate_left
       · (intro w' hSw; (try dsimp only at hSw); go_simp; try with_reducible rfl)
       try simp only [Act.put, sA, sB, sC, sD, sE, sF]
       refine tk 12 ?_ rfl (by kernel_rfl) (fun _ _ _ h => h) ‹_› (by rfl) ?_ ?_
       rotate_left
       · (intro w' hSw; (try dsimp only at hSw); go_simp; try with_reducible rfl)
       try simp only [Act.put, sA, sB, sC, sD, sE, sF]
       refine wpAnyT_tail (by kernel_rfl) ?_
       simp only [List.drop_succ_cons, List.drop_zero]
       go_wp2
       go_ret
       exact ⟨HFR.out.drew, rfl⟩
     | some v =>
       rw [hgc] at hlk hcl2
       replace hlk : (Instr.lookup 46 (.map (some fb)) (.agg #[strV c.md, strV c.tt]) false).run Tryz.prog wr.drew = .ok (.pointer (some ⟨v, 0, none⟩)) wr.drew := hlk
       have hcl2 : Hg.nCalls fs ((c.b, v) :: refs) (σ.calls.drop (k + 1)) = r := hcl2
       have HCL := Lib.hid hcl2
       obtain ⟨key, hkm⟩ := Hg.gl_mem hgc
       obtain ⟨s, hs, hsv⟩ := hN.fin _ hkm
       have hsv : s.b = v := hsv
       subst hsv
       obtain ⟨as', cs', hhs, -, -⟩ := (hN.node s hs).open_
       have e9 := cell_of_row wr s.b 9 _ _ (0, 0) hhs
       simp at e9
       have HN2 := Lib.hid (hN.drew.refUp HLW.out HA.out hck s.b)
       have HFR2 := Lib.hid (hfr.drew.set (p := ⟨c.b, 4, none⟩) (.inl (.inl (.inl (.inr ⟨c, hck, rfl⟩)))) (.int .u64 (ids s.b : Int)))
       clear hN hfr hnm hhc hck hkey hgc hcl2 hhs hkm
       go_wp2
       refine wp_region_two (fun w' => w'.cell? ⟨nb, 2, none⟩ = some (.map (some fb)) ∧ w'.cell? ⟨c.b, 6, none⟩ = some (strV c.md) ∧ w'.cell? ⟨c.b, 7, none⟩ = some (strV c.tt)) 13 (by kernel_rfl) ?_
       refine tk 0 ?_ rfl (by kernel_rfl) (fun _ _ _ h => h) ‹_› (by rfl) ?_ ?_
       rotate_left
       · (intro w' hSw; (try dsimp only at hSw); go_simp; try with_reducible rfl)
       try simp only [Act.put, sA, sB, sC, sD, sE, sF]
       refine tk 1 ?_ rfl (by kernel_rfl) (fun _ _ _ h => h) ‹_› (by rfl) ?_ ?_
       rotate_left
       · (intro w' hSw; (try dsimp only at hSw); go_simp; try with_reducible rfl)
       try simp only [Act.put, sA, sB, sC, sD, sE, sF]
       refine tk 2 ?_ rfl (by kernel_rfl) (fun _ _ _ h => h) ‹_› (by rfl) ?_ ?_
       rotate_left
       · (intro w' hSw; (try dsimp only at hSw); go_simp; try with_reducible rfl)
       try simp only [Act.put, sA, sB, sC, sD, sE, sF]
       refine tk 3 ?_ rfl (by kernel_rfl) (fun _ _ _ h => h) ‹_› (by rfl) ?_ ?_
       rotate_left
       · (intro w' hSw; (try dsimp only at hSw); go_simp; try with_reducible rfl)
       try simp only [Act.put, sA, sB, sC, sD, sE, sF]
       refine tk 4 ?_ rfl (by kernel_rfl) (fun _ _ _ h => h) ‹_› (by rfl) ?_ ?_
       rotate_left
       · (intro w' hSw; (try dsimp only at hSw); go_simp; try with_reducible rfl)
       try simp only [Act.put, sA, sB, sC, sD, sE, sF]
       refine tk 5 ?_ rfl (by kernel_rfl) (fun _ _ _ h => h) ‹_› (by rfl) ?_ ?_
       rotate_left
       · (intro w' hSw; (try dsimp only at hSw); go_simp; try with_reducible rfl)
       try simp only [Act.put, sA, sB, sC, sD, sE, sF]
       refine tk 6 ?_ rfl (by kernel_rfl) (fun _ _ _ h => h) ‹_› (by rfl) ?_ ?_
       rotate_left
       · (intro w' hSw; (try dsimp only at hSw); go_simp; try with_reducible rfl)
       try simp only [Act.put, sA, sB, sC, sD, sE, sF]
       refine tk 7 ?_ rfl (by kernel_rfl) (fun _ _ _ h => h) ‹_› (by rfl) ?_ ?_
       rotate_left
       · (intro w' hSw; (try dsimp only at hSw); go_simp; try with_reducible rfl)
       try simp only [Act.put, sA, sB, sC, sD, sE, sF]
       refine tk 8 ?_ rfl (by kernel_rfl) (fun _ _ _ h => h) ‹_› (by rfl) ?_ ?_
       rotate_left
       · (intro w' hSw; (try dsimp only at hSw); go_simp; try with_reducible rfl)
       try simp only [Act.put, sA, sB, sC, sD, sE, sF]
       refine tk 9 ?_ rfl (by kernel_rfl) (fun _ _ _ h => h) ‹_› (by rfl) ?_ ?_
       rotate_left
       · (intro w' hSw; (try dsimp only at hSw); go_simp; try with_reducible rfl)
       try simp only [Act.put, sA, sB, sC, sD, sE, sF]
       refine tk 10 ?_ rfl (by kernel_rfl) (fun _ _ _ h => h) ‹_› (by rfl) ?_ ?_
       rotate_left
       · (intro w' hSw; (try dsimp only at hSw); go_simp; try with_reducible rfl)
       try simp only [Act.put, sA, sB, sC, sD, sE, sF]
       refine tk 11 ?_ rfl (by kernel_rfl) (fun _ _ _ h => h) ‹_› (by rfl) ?_ ?_
       rotate_left
       · (intro w' hSw; (try dsimp only at hSw); go_simp; try with_reducible rfl)
       try simp only [Act.put, sA, sB, sC, sD, sE, sF]
       refine tk 12 ?_ rfl (by kernel_rfl) (fun _ _ _ h => h) ‹_› (by rfl) ?_ ?_
       rotate_left
       · (intro w' hSw; (try dsimp only at hSw); go_simp; try with_reducible rfl)
       try simp only [Act.put, sA, sB, sC, sD, sE, sF]
       refine wpAnyT_tail (by kernel_rfl) ?_
       simp only [List.drop_succ_cons, List.drop_zero]
       go_wp2
       go_roundw
       case rel => exact ⟨k + 1, _, _, by go_num, by omega, HN2.out, HFR2.out, HCL.out⟩
       case measure => simp [intOf]; omega
    ·
     obtain rfl : k = σ.calls.length := by omega
     rw [List.drop_length] at hcl2
     have hre : r = .ok refs := hcl2.symm
     subst hre
     obtain ⟨uv, sv, hnm⟩ := hN.nm
     have hρ : ρ = fun b => ((gl refs b).map ids).getD 0 := funext hN.ref
     subst hρ
     have HFIN := Lib.hid (And.intro hfr (And.intro hnm hN.node))
     clear hN hfr hnm hcl2
     go_wp2
     go_ret
     exact ⟨HFIN.out.1, rfl, _, _, _, HFIN.out.2.1, HFIN.out.2.2⟩
end Go.Proofs.YtoelmnamlnbdhaaGreatDoor
