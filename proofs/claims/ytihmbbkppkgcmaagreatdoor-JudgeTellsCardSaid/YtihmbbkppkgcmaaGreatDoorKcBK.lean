/-
  Part of a proof: contracts of functions that the claim reaches, and plain lemmas.
-/
import Derived.Test.YtihmbbkppkgcmaaGreatDoorKcBJ
set_option linter.all false
namespace Go.Proofs.YtihmbbkppkgcmaaGreatDoor
open Go.RowKit
abbrev SMap := KMap 9 strV
def Dist (l : List GT) : Prop := ∀ (i j : Nat) (a b : GT), l[i]? = some a → l[j]? = some b → a.nd.name = b.nd.name → i = j
theorem Dist.new {l : List GT} (h : Dist l) {i : Nat} {a : GT} (ha : l[i]? = some a) {x : GT} (hx : x ∈ l.take i) : x.nd.name ≠ a.nd.name := by
 intro e
 obtain ⟨k, hk, he⟩ := List.mem_iff_getElem.1 hx
 rw [List.length_take] at hk
 have h1 : l[k]? = some x := by rw [List.getElem?_eq_getElem (by omega)]; rw [List.getElem_take] at he; rw [he]
 have := h k i x a h1 ha e
 omega
structure NamesOk (l : List GT) (t : GT) : Prop where
 sz : t.subs.length ≤ 1000
 dist : Dist t.ks
 dist2 : ∀ m ∈ t.ks, Dist m.ks
 short : ∀ s ∈ t.subs, s.nd.name.length ≤ 1000
 plain : ∀ m ∈ t.ks, ∀ f ∈ m.ks, ∀ s ∈ GT.subsL f.ks, PlainK s
theorem kmap_not_node {α : Type} {k : TypeId} {enc : α → Value} {w : World} {b : Nat} {K : List α} (hF : KMap k enc w b K) {ids : Nat → Nat} {κ : Nat → Value} {Z : Nat → Prop} {s : GT} (h : NodeAt w ids κ Z s) : s.b ≠ b := by
 intro e
 obtain ⟨a, c, hh, _⟩ := h
 obtain ⟨_, D, _, ho, _⟩ := hF
 obtain ⟨es, ck, hm⟩ := owns_map ho
 rw [e, hm] at hh; cases hh
theorem kmap_not_nm {α : Type} {k : TypeId} {enc : α → Value} {w : World} {b : Nat} {K : List α} (hF : KMap k enc w b K) {nb next : Nat} {av fv mv cv uv sv : Value} (h : NmAt w nb av next fv mv cv uv sv) : nb ≠ b := by
 intro e
 obtain ⟨_, D, _, ho, _⟩ := hF
 obtain ⟨es, ck, hm⟩ := owns_map ho
 have h1 : w.heap[nb]? = _ := h
 rw [e, hm] at h1; cases h1
structure AllSt (l : List GT) (t : GT) (nb fb mb : Nat) (av : Value) (next : Nat) (w : World) (i j : Nat) (wr : World) : Prop where
 nm : ∃ uv sv, NmAt wr nb av next (.map (some fb)) (.map (some mb)) (.slice none 0 0) uv sv
 fm : ∃ K, FMap wr fb K ∧ K.length ≤ (GT.blocksL (t.ks.take i)).length + j ∧ ∀ x ∈ K, (∃ m ∈ t.ks.take i, x.1 = m.nd.name) ∨ ∃ m, t.ks[i]? = some m ∧ x.1 = m.nd.name ∧ ∃ f ∈ m.ks.take j, x.2 = f.nd.name
 fr : Fr (fun q => q = nb ∨ q = fb ∨ q = mb) w wr
def AllMd (t : GT) (mb i : Nat) (wr : World) : Prop := ∃ K, SMap wr mb K ∧ K.length ≤ i ∧ ∀ x ∈ K, ∃ m ∈ t.ks.take i, x = m.nd.name
set_option maxHeartbeats 8000000 in
set_option maxRecDepth 100000 in
theorem all_any (l : List GT) (nb fb mb : Nat) (Z : Nat → Prop) (hA : Amb l nb Z) (ids : Nat → Nat) (κ : Nat → Value) (av : Value) (next : Nat) (uv sv : Value) (t : GT) (w : World) (hG : ∀ s ∈ l, NodeAt w ids κ Z s)
 (hN : NmAt w nb av next (.map (some fb)) (.map (some mb)) (.slice none 0 0) uv sv) (hF : FMap w fb []) (hM : SMap w mb []) (hfm : fb ≠ mb) (htl : t ∈ l) (hZf : ¬ Z fb) (hZm : ¬ Z mb) (hOk : NamesOk l t) :
 Calls Tryz.prog 39 #[.pointer (some ⟨nb, 0, none⟩), ptrV t] w fun e w' => e = .returned (.int .i64 0) ∧ ∃ uv' sv', NmAt w' nb av next (.map (some fb)) (.map (some mb)) (.slice none 0 0) uv' sv' ∧ Fr (fun q => q = nb ∨ q = fb ∨ q = mb) w w' := by
 have hzb : ∀ W : World, (zeroValue 4).run Tryz.prog W = .ok (.bool false) W := fun W => by kernel_rfl
 have hnf := kmap_not_nm hF hN
 have hnm := kmap_not_nm hM hN
 have HG := Lib.hid hG
 have HA := Lib.hid hA
 have HO := Lib.hid hOk
 have HT := Lib.hid htl
 have HGf := Lib.hid (show ∀ W, Fr (fun q => q = nb ∨ q = fb ∨ q = mb) w W → ∀ s ∈ l, NodeAt W ids κ Z s from fun W hf s hs => (hG s hs).fr hf (fun e => by
  rcases e with e | e | e
  ·
   exact hA.ne s hs e
  ·
   exact kmap_not_node hF (hG s hs) e
  ·
   exact kmap_not_node hM (hG s hs) e) (fun q hz e => by
  rcases e with e | e | e
  ·
   exact hA.nbz (e ▸ hz)
  ·
   exact hZf (e ▸ hz)
  ·
   exact hZm (e ▸ hz)))
 have HZF := Lib.hid hZf
 have HZM := Lib.hid hZm
 obtain ⟨a, c, hh, hsl, hq⟩ := hG t htl
 have c8 := cell_of_row w t.b 8 _ _ (0, 0) hh
 simp at c8
 have HS := Lib.hid (show ∀ W, Fr (fun q => q = nb ∨ q = fb ∨ q = mb) w W → Sl W w.heap.size (.slice a t.ks.length c) t.ks.length (t.ks.map ptrV) from fun W hf => hsl.fr (Nat.le_refl _) hf (fun q e e' => by
  have hz := hq q e
  rcases e' with e | e | e
  ·
   exact hA.nbz (e ▸ hz)
  ·
   exact hZf (e ▸ hz)
  ·
   exact hZm (e ▸ hz)))
 have HST := Lib.hid (show AllSt l t nb fb mb av next w 0 0 w from ⟨⟨_, _, hN⟩, ⟨[], hF, Nat.zero_le _, fun x h => by simp at h⟩, Fr.refl _ _⟩)
 have HMD := Lib.hid (show AllMd t mb 0 w from ⟨[], hM, Nat.le_refl _, fun x h => by simp at h⟩)
 have hsub : t.subs.length = (GT.blocksL t.ks).length + 1 := by rw [GT.subs_eq, GT.blocksL_len]; rfl
 have hkl : t.ks.length ≤ 1000 := by
  have h1 := GT.len_le t.ks
  have h3 := hOk.sz
  omega
 have htk : (GT.blocksL t.ks).length ≤ 1000 := by have h3 := hOk.sz; omega
 clear hG hA hOk htl hF hM hN hZf hZm hh hsl hq hsub
 go_enter Tryz.func39, Tryz.ntmps39
 go_wp2
 go_loopw [18] (fun p wr => ∃ i : Nat, p = .int .i64 (i : Int) ∧ i ≤ t.ks.length ∧ AllSt l t nb fb mb av next w i 0 wr ∧ AllMd t mb i wr) (fun p wr => t.ks.length - (intOf p).toNat)
 case atStart => exact ⟨0, rfl, Nat.zero_le _, HST.out, HMD.out⟩
 case round =>
  obtain ⟨i, rfl, hi, hS, hM⟩ := hrel
  clear HST HMD
  by_cases hlt : i < t.ks.length
  ·
   obtain ⟨m, hm⟩ : ∃ m, t.ks[i]? = some m := ⟨_, List.getElem?_eq_getElem hlt⟩
   have hme : t.ks[i] = m := by have := List.getElem?_eq_getElem hlt; rw [hm] at this; injection this with this; exact this.symm
   have hmk : m ∈ t.ks := by rw [← hme]; exact List.getElem_mem hlt
   obtain ⟨b, o, rfl, _, kc⟩ := (HS.out wr hS.fr).mapAt hlt
   rw [hme] at kc
   have hml : m ∈ l := HA.out.kids t HT.out m hmk
   obtain ⟨am, cm, hhm, hslm, hqm⟩ := HGf.out wr hS.fr m hml
   obtain ⟨uv1, sv1, hN1⟩ := hS.nm
   obtain ⟨KM, hM1, hKM, hKM2⟩ := hM
   have hnotin : m.nd.name ∉ KM := fun h => by
    obtain ⟨x, hx, e⟩ := hKM2 _ h
    exact HO.out.dist.new hm hx e.symm
   have hkey := keyOf_strV m.nd.name (by
    have := HO.out.short m (by rw [GT.subs_eq]; exact List.mem_cons_of_mem _ (GT.mem_subsL hmk m (GT.self_mem m)))
    omega)
   have c1 := cell_of_row wr m.b 1 _ _ (0, 0) hhm
   have c8 := cell_of_row wr m.b 8 _ _ (0, 0) hhm
   simp at c1 c8
   obtain ⟨-, -, -, c3, -, -, -, f6⟩ := hN1.cells
   have hlk := (hM1.keep (w' := wr.drew) rfl).look (z := .bool false) str_keyed Tryz.underlying94 (hzb _) hnotin hkey
   have hHeld : (fun w' => w'.cell? ⟨nb, 3, none⟩ = some (.map (some mb)) ∧ w'.cell? ⟨m.b, 1, none⟩ = some (strV m.nd.name) ∧ (Instr.lookup 94 (.map (some mb)) (strV m.nd.name) false).run Tryz.prog w' = .ok (.bool false) w') wr.drew := ⟨c3, c1, hlk⟩
   go_wp2
   refine wp_region_two (fun w' => w'.cell? ⟨nb, 3, none⟩ = some (.map (some mb)) ∧ w'.cell? ⟨m.b, 1, none⟩ = some (strV m.nd.name) ∧ (Instr.lookup 94 (.map (some mb)) (strV m.nd.name) false).run Tryz.prog w' = .ok (.bool false) w') 9 (by kernel_rfl) ?_
   refine tk 0 ?_ rfl (by kernel_rfl) (fun _ _ _ h => h) ‹_› ?_ ?_ (tk 1 ?_ rfl (by kernel_rfl) (fun _ _ _ h => h) ‹_› ?_ ?_ (tk 2 ?_ rfl (by kernel_rfl) (fun _ _ _ h => h) ‹_› ?_ ?_ (tk 3 ?_ rfl (by kernel_rfl) (fun _ _ _ h => h) ‹_› ?_ ?_ (tk 4 ?_ rfl (by kernel_rfl) (fun _ _ _ h => h) ‹_› ?_ ?_ (tk 5 ?_ rfl (by kernel_rfl) (fun _ _ _ h => h) ‹_› ?_ ?_ (tk 6 ?_ rfl (by kernel_rfl) (fun _ _ _ h => h) ‹_› ?_ ?_ (tk 7 ?_ rfl (by kernel_rfl) (fun _ _ _ h => h) ‹_› ?_ ?_ (tk 8 ?_ rfl (by kernel_rfl) (fun _ _ _ h => h) ‹_› ?_ ?_ ?_))))))))
   all_goals try (first | rfl | ((try simp only [Act.put, sA, sB, sC]); intro w' hSw; (try dsimp only at hSw); go_simp; try with_reducible rfl))
   try simp only [Act.put, sA, sB, sC]
   refine wpAnyT_tail (by kernel_rfl) ?_
   simp only [List.drop_succ_cons, List.drop_zero]
   go_wp2
   clear hHeld hlk
   have hHeld : (fun w' => w'.cell? ⟨nb, 3, none⟩ = some (.map (some mb)) ∧ w'.cell? ⟨m.b, 1, none⟩ = some (strV m.nd.name)) wr.drew.drew := ⟨c3, c1⟩
   refine wp_region_two (fun w' => w'.cell? ⟨nb, 3, none⟩ = some (.map (some mb)) ∧ w'.cell? ⟨m.b, 1, none⟩ = some (strV m.nd.name)) 9 (by kernel_rfl) ?_
   refine tk 0 ?_ rfl (by kernel_rfl) (fun _ _ _ h => h) ‹_› ?_ ?_ (tk 1 ?_ rfl (by kernel_rfl) (fun _ _ _ h => h) ‹_› ?_ ?_ (tk 2 ?_ rfl (by kernel_rfl) (fun _ _ _ h => h) ‹_› ?_ ?_ (tk 3 ?_ rfl (by kernel_rfl) (fun _ _ _ h => h) ‹_› ?_ ?_ (tk 4 ?_ rfl (by kernel_rfl) (fun _ _ _ h => h) ‹_› ?_ ?_ (tk 5 ?_ rfl (by kernel_rfl) (fun _ _ _ h => h) ‹_› ?_ ?_ (tk 6 ?_ rfl (by kernel_rfl) (fun _ _ _ h => h) ‹_› ?_ ?_ (tk 7 ?_ rfl (by kernel_rfl) (fun _ _ _ h => h) ‹_› ?_ ?_ (tk 8 ?_ rfl (by kernel_rfl) (fun _ _ _ h => h) ‹_› ?_ ?_ ?_))))))))
   all_goals try (first | rfl | ((try simp only [Act.put, sA, sB, sC]); intro w' hSw; (try dsimp only at hSw); go_simp; try with_reducible rfl))
   try simp only [Act.put, sA, sB, sC]
   refine wpAnyT_tail (by kernel_rfl) ?_
   simp only [List.drop_succ_cons, List.drop_zero]
   obtain ⟨W2, hrun2, hM2, hg2⟩ := (hM1.keep (w' := wr.drew.drew) rfl).put str_keyed Tryz.underlying94 (fun x y h => strV_inj h) (by omega) m.nd.name hkey (.bool true)
   have hne2 : ∀ q, q ≠ mb → (some q : Option Nat) ≠ some mb := fun q h e => by injection e with e; exact h e
   have HST := Lib.hid (show AllSt l t nb fb mb av next w i 0 W2 from ⟨⟨_, _, (hg2.block nb (show nb < wr.heap.size from hN1.lt) (hne2 _ hnm)).trans hN1⟩, by
    obtain ⟨K, hK, hK2, hK3⟩ := hS.fm
    exact ⟨K, hK.keep (hg2.block fb (show fb < wr.heap.size from hK.lt) (hne2 _ hfm)), hK2, hK3⟩, hS.fr.drew.drew.step hg2 (fun q e => .inl (.inr (.inr (by injection e with e; exact e.symm))))⟩)
   have HMD := Lib.hid (show AllMd t mb (i + 1) W2 from ⟨_, hM2, by simp; omega, fun x hx => by
    rw [take_one hm]
    rcases List.mem_cons.1 hx with hx | hx
    ·
     exact ⟨m, by simp, hx⟩
    ·
     obtain ⟨y, hy, e⟩ := hKM2 x hx
     exact ⟨y, by simp [hy], e⟩⟩)
   obtain ⟨am2, cm2, hhm2, hslm2, hqm2⟩ := HGf.out W2 HST.out.fr m hml
   have hHm : Hg.Node = Hg.Node := rfl
   clear hHm
   have c8 := cell_of_row W2 m.b 8 _ _ (0, 0) hhm2
   simp at c8
   have HSM := Lib.hid (show ∀ W, Fr (fun q => q = nb ∨ q = fb ∨ q = mb) W2 W → Sl W W2.heap.size (.slice am2 m.ks.length cm2) m.ks.length (m.ks.map ptrV) from fun W hf => hslm2.fr (Nat.le_refl _) hf (fun q e e' => by
    have hz := hqm2 q e
    rcases e' with e | e | e
    ·
     exact HA.out.nbz (e ▸ hz)
    ·
     exact HZF.out (e ▸ hz)
    ·
     exact HZM.out (e ▸ hz)))
   have HM := Lib.hid hm
   have HMK := Lib.hid hmk
   have htake : GT.blocksL (t.ks.take (i + 1)) = GT.blocksL (t.ks.take i) ++ m.blocks := by rw [GT.blocksL_take hlt, hme]
   have htl2 : (GT.blocksL (t.ks.take i)).length + m.subs.length ≤ 1000 := by
    have h1 := GT.subsL_take_le t.ks (i + 1)
    rw [htake, List.length_append, GT.blocks_len] at h1
    omega
   have hsubm : m.subs.length = (GT.blocksL m.ks).length + 1 := by rw [GT.subs_eq, GT.blocksL_len]; rfl
   have hmkl := GT.len_le m.ks
   have HTK := Lib.hid htake
   have HTL := Lib.hid (And.intro htl2 (And.intro hsubm hmkl))
   have hmk1 : m.ks.length ≤ 1000 := by omega
   clear hHeld hS hM1 hKM2 hnotin hkey hN1 hhm hslm hqm c1 c3 f6 hM2 hg2 hhm2 hslm2 hqm2 hm hmk hme htake htl2 hsubm hmkl
   go_wp2
   clear c8
   go_loopw [46] (fun p wr => ∃ j : Nat, p = .int .i64 (j : Int) ∧ j ≤ m.ks.length ∧ AllSt l t nb fb mb av next w i j wr ∧ AllMd t mb (i + 1) wr ∧ Fr (fun q => q = nb ∨ q = fb ∨ q = mb) W2 wr) (fun p wr => m.ks.length - (intOf p).toNat)
   case atStart => exact ⟨0, rfl, Nat.zero_le _, HST.out, HMD.out, Fr.refl _ _⟩
   case round =>
    obtain ⟨j, rfl, hj, hS, hM, hf2⟩ := hrel
    clear HST HMD
    by_cases hltj : j < m.ks.length
    ·
     obtain ⟨f, hf⟩ : ∃ f, m.ks[j]? = some f := ⟨_, List.getElem?_eq_getElem hltj⟩
     have hfe : m.ks[j] = f := by have := List.getElem?_eq_getElem hltj; rw [hf] at this; injection this with this; exact this.symm
     have hfk : f ∈ m.ks := by rw [← hfe]; exact List.getElem_mem hltj
     obtain ⟨b2, o2, rfl, _, kc2⟩ := (HSM.out wr hf2).mapAt hltj
     rw [hfe] at kc2
     have hfl : f ∈ l := HA.out.kids m hml f hfk
     obtain ⟨uv3, sv3, hN3⟩ := hS.nm
     obtain ⟨K, hK, hK2, hK3⟩ := hS.fm
     have hmt : m ∈ t.subs := by rw [GT.subs_eq]; exact List.mem_cons_of_mem _ (GT.mem_subsL HMK.out m (GT.self_mem m))
     have hft : f ∈ t.subs := by
      rw [GT.subs_eq]
      exact List.mem_cons_of_mem _ (GT.mem_subsL HMK.out f (by rw [GT.subs_eq]; exact List.mem_cons_of_mem _ (GT.mem_subsL hfk f (GT.self_mem f))))
     have hnew : (m.nd.name, f.nd.name) ∉ K := fun h => by
      rcases hK3 _ h with ⟨x, hx, e⟩ | ⟨x, hx, e, y, hy, e2⟩
      ·
       exact HO.out.dist.new HM.out hx e.symm
      ·
       rw [HM.out] at hx
       injection hx with hx
       subst hx
       exact (HO.out.dist2 m HMK.out).new hf hy e2.symm
     have hTL := HTL.out
     have TF := Lib.hid (nfunc_any l nb fb Z HA.out ids κ av next (.map (some mb)) (.slice none 0 0) uv3 sv3 m.nd.name f K wr (HGf.out wr hS.fr) hN3 hK hfl (HO.out.plain m HMK.out f hfk) (by have := GT.len_lt hfk; omega) HZF.out hnew (by omega) (HO.out.short m hmt) (HO.out.short f hft))
     obtain ⟨am3, cm3, hhm3, _, _⟩ := HGf.out wr hS.fr m hml
     have c1 := cell_of_row wr m.b 1 _ _ (0, 0) hhm3
     simp at c1
     have HSS := Lib.hid hS
     have HMM := Lib.hid hM
     have HF2 := Lib.hid hf2
     have HK3 := Lib.hid (And.intro hK2 hK3)
     have HFE := Lib.hid hf
     clear hS hM hf2 hK hK2 hK3 hN3 hnew hmt hft hhm3 hTL hfe hf hfk hfl
     go_wp2_with fail
     refine TF.out.mono ?_
     rintro e w5 ⟨rfl, uv5, sv5, hN5, hF5, hfr5⟩
     have HST5 := Lib.hid (show AllSt l t nb fb mb av next w i (j + 1) w5 from ⟨⟨_, _, hN5⟩, ⟨_, hF5, by have := HK3.out.1; simp; omega, fun x hx => by
      rcases List.mem_cons.1 hx with hx | hx
      ·
       exact .inr ⟨m, HM.out, by rw [hx], f, by rw [take_one HFE.out]; simp, by rw [hx]⟩
      ·
       rcases HK3.out.2 x hx with h | ⟨y, hy, e, z, hz, e2⟩
       ·
        exact .inl h
       ·
        rw [HM.out] at hy
        injection hy with hy
        subst hy
        exact .inr ⟨m, HM.out, e, z, by rw [take_one HFE.out]; simp [hz], e2⟩⟩, HSS.out.fr.then_ hfr5 (fun q _ e => by
      rcases e with e | e
      ·
       exact .inl e
      ·
       exact .inr (.inl e))⟩)
     have HMD5 := Lib.hid (show AllMd t mb (i + 1) w5 from by
      obtain ⟨KM5, h1, h2, h3⟩ := HMM.out
      exact ⟨KM5, h1.keep (hfr5.block mb h1.lt (fun e => by
       rcases e with e | e
       ·
        exact hnm e.symm
       ·
        exact hfm e.symm)), h2, h3⟩)
     have HF5 := Lib.hid (HF2.out.then_ hfr5 (D := (fun q => q = nb ∨ q = fb ∨ q = mb)) (fun q _ e => by
      rcases e with e | e
      ·
       exact .inl e
      ·
       exact .inr (.inl e)))
     clear hN5 hF5 hfr5 HSS HMM HF2 HK3
     go_wp2
     go_roundw
     case rel => exact ⟨j + 1, by go_num, by omega, HST5.out, HMD5.out, HF5.out⟩
     case measure => simp [intOf]; omega
    ·
     obtain rfl : j = m.ks.length := by omega
     have HST5 := Lib.hid (show AllSt l t nb fb mb av next w (i + 1) 0 wr from ⟨hS.nm, by
      obtain ⟨K, hK, hK2, hK3⟩ := hS.fm
      have hTL := HTL.out
      refine ⟨K, hK, ?_, fun x hx => .inl ?_⟩
      ·
       rw [HTK.out, List.length_append, GT.blocks_len]; omega
      ·
       rw [take_one HM.out]
       rcases hK3 x hx with ⟨y, hy, e⟩ | ⟨y, hy, e, _⟩
       ·
        exact ⟨y, by simp [hy], e⟩
       ·
        rw [HM.out] at hy
        injection hy with hy
        subst hy
        exact ⟨m, by simp, e⟩, hS.fr⟩)
     have HMD5 := Lib.hid hM
     clear hS hM hf2
     go_wp2
     go_roundw
     case rel => exact ⟨i + 1, by go_num, by omega, HST5.out, HMD5.out⟩
     case measure => simp [intOf]; omega
  ·
   have HSF := Lib.hid (And.intro hS.nm hS.fr)
   obtain ⟨uv1, sv1, hN1⟩ := hS.nm
   obtain ⟨-, -, -, -, c4, -, -, -⟩ := hN1.cells
   clear hS hM hN1
   go_wp2
   go_loopw [68] (fun p wr => p = .int .i64 0 ∧ (∃ uv sv, NmAt wr nb av next (.map (some fb)) (.map (some mb)) (.slice none 0 0) uv sv) ∧ Fr (fun q => q = nb ∨ q = fb ∨ q = mb) w wr) (fun p wr => 0)
   case atStart => exact ⟨rfl, HSF.out⟩
   case round =>
    obtain ⟨rfl, ⟨uv6, sv6, hN6⟩, hf6⟩ := hrel
    have HFIN := Lib.hid (And.intro hN6 hf6)
    clear hN6 hf6
    go_wp2
    go_ret
    exact ⟨rfl, _, _, HFIN.out.1, HFIN.out.2⟩
end Go.Proofs.YtihmbbkppkgcmaaGreatDoor
namespace Go.Proofs.YtihmbbkppkgcmaaGreatDoor
open Go.RowKit
def GT.node (ids : Nat → Nat) (t : GT) : Hg.Node := { t.nd with kids := t.ks.map (fun k => ids k.b) }
abbrev ArM := Nat → Option Hg.Node
mutual
def layM (ids : Nat → Nat) : GT → ArM → ArM | .mk b nd ks, M => putM (layML ids ks M) (ids b) { nd with kids := ks.map (fun k => ids k.b) }
def layML (ids : Nat → Nat) : List GT → ArM → ArM | [], M => M | t :: ts, M => layML ids ts (layM ids t M)
end
theorem layM_eq (ids : Nat → Nat) (t : GT) (M : ArM) : layM ids t M = putM (layML ids t.ks M) (ids t.b) (t.node ids) := by
 cases t; rw [layM]; rfl
theorem layML_snoc (ids : Nat → Nat) : ∀ (l : List GT) (t : GT) (M : ArM), layML ids (l ++ [t]) M = layM ids t (layML ids l M)
 | [], t, M => by simp [layML]
 | x :: l, t, M => by
   show layML ids (x :: (l ++ [t])) M = _
   rw [layML, layML, layML_snoc ids l t]
theorem GT.subs_b {t s : GT} (h : s ∈ t.subs) : s.b ∈ t.blocks := List.mem_map.2 ⟨s, h, rfl⟩
theorem ArAtZ.row {o : Option Nat} {Z : Nat → Prop} {w w' : World} {ab mb c : Nat} {M : Nat → Option Hg.Node} (h : ArAtZ Z w ab mb c M) (hg : w.grownBy w' o) (ho : ∀ q, o = some q → q ≠ ab ∧ q ≠ mb ∧ ¬ Z q) : ArAtZ Z w' ab mb c M := by
 have hlt := h.lt
 obtain ⟨h0, ⟨D, hw, hc, hk⟩, hbd⟩ := h
 refine ⟨(hg.block ab hlt (fun e => (ho ab e.symm).1 rfl)).trans h0, ⟨D, hw.kept hg (fun e => (ho mb e.symm).2.1 rfl), hc, fun id hid => ?_⟩, hbd⟩
 have hx := hk id hid
 cases hM : M id with
 | none => rw [hM] at hx; exact hx
 | some nd =>
   rw [hM] at hx
   obtain ⟨ka, kc, h1, h2, h3⟩ := hx
   exact ⟨ka, kc, h1, (h2.grown (Nat.le_refl _) hg (fun g e e' => (ho g e).2.2 (h3 g e'))).more hg.size, h3⟩
theorem Amb.subs {l : List GT} {nb : Nat} {Z : Nat → Prop} (h : Amb l nb Z) : ∀ (n : Nat) (t : GT), t ∈ l → t.subs.length ≤ n + 1 → ∀ s ∈ t.subs, s ∈ l := by
 intro n
 induction n with
 | zero =>
   intro t ht hn s hs
   rw [GT.subs_eq] at hs
   rcases List.mem_cons.1 hs with hs | hs
   ·
    rw [hs]; exact ht
   ·
    rw [GT.subs_eq] at hn
    simp at hn
    rw [hn] at hs
    simp at hs
 | succ n ih =>
   intro t ht hn s hs
   rw [GT.subs_eq] at hs
   rcases List.mem_cons.1 hs with hs | hs
   ·
    rw [hs]; exact ht
   ·
    have key : ∀ (m : List GT), (∀ x ∈ m, x ∈ t.ks) → s ∈ GT.subsL m → ∃ x ∈ m, s ∈ x.subs := by
     intro m
     induction m with
     | nil => intro _ h; simp [GT.subsL_nil] at h
     | cons x m ih2 =>
       intro hx h
       rw [GT.subsL_cons, List.mem_append] at h
       rcases h with h | h
       ·
        exact ⟨x, by simp, h⟩
       ·
        obtain ⟨y, hy, h'⟩ := ih2 (fun z hz => hx z (by simp [hz])) h
        exact ⟨y, by simp [hy], h'⟩
    obtain ⟨x, hx, hs'⟩ := key t.ks (fun _ h => h) hs
    exact ih x (h.kids t ht x hx) (by have := GT.len_lt hx; omega) s hs'
theorem ownsRow_fr {S : Nat → Prop} {w w' : World} {base : Nat} {e : TypeId} {size : Nat} {v : Value} {n : Nat} {xs : List Value} (h : w.ownsRow base e size v n xs) (hf : Fr S w w') (hb : ∀ q, v.ownBlock = some q → ¬ S q) : w'.ownsRow base e size v n xs := by
 obtain ⟨h1, h2⟩ := h
 refine ⟨h1, ?_⟩
 rcases h2 with h2 | ⟨g, cap, cur, hv, hg, hh, h3⟩
 ·
  exact .inl h2
 ·
  exact .inr ⟨g, cap, cur, hv, hg, hf.at_ hh (hb g (by rw [hv]; rfl)), h3⟩
theorem ArAtZ.lts {Z : Nat → Prop} {w : World} {ab mb c : Nat} {M : Nat → Option Hg.Node} (h : ArAtZ Z w ab mb c M) : ab < w.heap.size ∧ mb < w.heap.size := ⟨h.lt, h.map.lt⟩
theorem ar_not_node {Y : Nat → Prop} {w : World} {ab mb c : Nat} {M : Nat → Option Hg.Node} (hR : ArAtZ Y w ab mb c M) {ids : Nat → Nat} {κ : Nat → Value} {Z : Nat → Prop} {s : GT} (h : NodeAt w ids κ Z s) : s.b ≠ ab ∧ s.b ≠ mb := by
 obtain ⟨a, c, hh, _⟩ := h
 refine ⟨fun e => ?_, fun e => ?_⟩
 ·
  have h1 := hR.cell
  rw [← e, hh] at h1
  injection h1 with h1
  injection h1 with _ h1 _
  exact absurd h1 (by decide)
 ·
  obtain ⟨⟨D, ho, _⟩, _⟩ := hR.map
  obtain ⟨es, ck, hm⟩ := owns_map ho
  rw [← e, hh] at hm; cases hm
def LayRes (l : List GT) (nb : Nat) (Z : Nat → Prop) (ids : Nat → Nat) (ab mb next : Nat) (fv mv cv uv sv : Value) (t : GT) (κ : Nat → Value) (c : Nat) (M : ArM) (Y : Nat → Prop) (w w' : World) : Prop :=
 ∃ κ' c', (∀ s ∈ l, NodeAt w' ids κ' Z s) ∧ (∀ b, b ∉ t.blocks → κ' b = κ b) ∧ NmAt w' nb (.pointer (some ⟨ab, 0, none⟩)) next fv mv cv uv sv ∧ c' ≤ c + t.subs.length ∧
   ArAtZ (fun q => Y q ∨ w.heap.size ≤ q ∧ q < w'.heap.size) w' ab mb c' (layM ids t M) ∧ Fr (fun q => q ∈ t.blocks ∨ q = mb) w w'
structure LayMid (l : List GT) (nb : Nat) (Z : Nat → Prop) (ids : Nat → Nat) (ab mb next : Nat) (fv mv cv uv sv : Value) (t : GT) (κ : Nat → Value) (c : Nat) (M : ArM) (Y : Nat → Prop) (w : World) (j : Nat) (v : Value) (κj : Nat → Value) (cj : Nat) (wr : World) : Prop where
 node : ∀ s ∈ l, NodeAt wr ids κj Z s
 here : κj t.b = v
 out : ∀ b, b ≠ t.b → b ∉ GT.blocksL (t.ks.take j) → κj b = κ b
 nm : NmAt wr nb (.pointer (some ⟨ab, 0, none⟩)) next fv mv cv uv sv
 cnt : cj ≤ c + (GT.blocksL (t.ks.take j)).length
 own : wr.ownsRow w.heap.size 28 1 v j ((t.ks.take j).map (fun k => idV (ids k.b)))
 ar : ArAtZ (fun q => (Y q ∨ w.heap.size ≤ q ∧ q < wr.heap.size) ∧ v.ownBlock ≠ some q) wr ab mb cj (layML ids (t.ks.take j) M)
 fr : Fr (fun q => q ∈ t.blocks ∨ q = mb) w wr
theorem LayMid.grow {l : List GT} {nb : Nat} {Z : Nat → Prop} {ids : Nat → Nat} {ab mb next : Nat} {fv mv cv uv sv : Value} {t : GT} {κ : Nat → Value} {c : Nat} {M : ArM} {Y : Nat → Prop} {w : World} {j : Nat} {v : Value} {κj : Nat → Value} {cj : Nat} {wr Wa W3 : World} {y3 z3 : Nat}
 (h : LayMid l nb Z ids ab mb next fv mv cv uv sv t κ c M Y w j v κj cj wr) (hZw : ∀ q, Z q → q < w.heap.size) (hYw : ∀ q, Y q → q < w.heap.size) (hlt : ∀ s ∈ l, s.b < w.heap.size) (htl : t ∈ l) (htz : ¬ Z t.b) (hYn : ∀ s ∈ l, ¬ Y s.b) (hnb : nb < w.heap.size) (htn : t.b ≠ nb) (habm : ab < w.heap.size ∧ mb < w.heap.size)
 (hBa : Below wr.heap.size wr Wa) (g3 : Wa.grownBy W3 v.ownBlock) (u : Value) (own3 : W3.ownsRow w.heap.size 28 1 (.slice (some ⟨y3, 0, none⟩) (j + 1) z3) (j + 1) ((t.ks.take j).map (fun k => idV (ids k.b)) ++ [u]))
 (at3 : (Value.slice (some ⟨y3, 0, none⟩) (j + 1) z3).ownBlock = v.ownBlock ∨ (Value.slice (some ⟨y3, 0, none⟩) (j + 1) z3).ownBlock = some Wa.heap.size) :
 (∀ s ∈ l, NodeAt (W3.setCell ⟨t.b, 5, none⟩ (.slice (some ⟨y3, 0, none⟩) (j + 1) z3)) ids (upd κj t.b (.slice (some ⟨y3, 0, none⟩) (j + 1) z3)) Z s) ∧
 NmAt (W3.setCell ⟨t.b, 5, none⟩ (.slice (some ⟨y3, 0, none⟩) (j + 1) z3)) nb (.pointer (some ⟨ab, 0, none⟩)) next fv mv cv uv sv ∧
 (W3.setCell ⟨t.b, 5, none⟩ (.slice (some ⟨y3, 0, none⟩) (j + 1) z3)).ownsRow w.heap.size 28 1 (.slice (some ⟨y3, 0, none⟩) (j + 1) z3) (j + 1) ((t.ks.take j).map (fun k => idV (ids k.b)) ++ [u]) ∧
 ArAtZ (fun q => (Y q ∨ w.heap.size ≤ q ∧ q < (W3.setCell ⟨t.b, 5, none⟩ (.slice (some ⟨y3, 0, none⟩) (j + 1) z3)).heap.size) ∧ (Value.slice (some ⟨y3, 0, none⟩) (j + 1) z3).ownBlock ≠ some q) (W3.setCell ⟨t.b, 5, none⟩ (.slice (some ⟨y3, 0, none⟩) (j + 1) z3)) ab mb cj (layML ids (t.ks.take j) M) ∧
 Fr (fun q => q ∈ t.blocks ∨ q = mb) w (W3.setCell ⟨t.b, 5, none⟩ (.slice (some ⟨y3, 0, none⟩) (j + 1) z3)) := by
 have hol := h.own.lt
 have hsz := h.fr.size
 have htb := hlt t htl
 have hsz3 := g3.size
 have hsza := hBa.size
 have hzs : (W3.setCell ⟨t.b, 5, none⟩ (.slice (some ⟨y3, 0, none⟩) (j + 1) z3)).heap.size = W3.heap.size := by simp
 have hfr3 : Fr (fun q => v.ownBlock = some q) wr W3 := (Fr.of_below hBa).then_ (Fr.of_grown g3 (fun q e => e)) (fun q _ e => e)
 have hgs : W3.grownBy (W3.setCell ⟨t.b, 5, none⟩ (.slice (some ⟨y3, 0, none⟩) (j + 1) z3)) (some t.b) := grown_set (grown_refl _ _) 5 _
 have hn3 : ∀ s ∈ l, NodeAt W3 ids κj Z s := fun s hs => (h.node s hs).fr hfr3 (fun e => by have := (hol _ e).1; have := hlt s hs; omega) (fun q hz e => by have := (hol _ e).1; have := hZw q hz; omega)
 have hne := ar_not_node h.ar (h.node t htl)
 refine ⟨fun s hs => (hn3 s hs).setK _ htz, ?_, ?_, ?_, ?_⟩
 ·
  exact (hgs.block nb (by have := h.nm.lt; omega) (fun e => by injection e with e; exact htn e.symm)).trans ((hfr3.block nb h.nm.lt (fun e => by have := (hol _ e).1; omega)).trans h.nm)
 ·
  exact own3.kept hgs (.inr (fun e => by have := (own3.lt t.b e).1; omega))
 ·
  have A1 := h.ar.below hBa (Nat.le_refl _)
  have A2 := A1.imp (Z' := fun q => (Y q ∨ w.heap.size ≤ q ∧ q < wr.heap.size) ∧ v.ownBlock ≠ some q ∧ q ≠ Wa.heap.size) (fun q hq => ⟨hq.1, hq.2, fun e => by
   rcases hq.1 with h | h
   ·
    have := hYw q h; omega
   ·
    omega⟩)
  have A3 := A2.row g3 (fun q e => ⟨by have := (hol q e).1; omega, by have := (hol q e).1; omega, fun hp => hp.2.1 e⟩)
  have A4 := A3.imp (Z' := fun q => (Y q ∨ w.heap.size ≤ q ∧ q < W3.heap.size) ∧ (Value.slice (some ⟨y3, 0, none⟩) (j + 1) z3).ownBlock ≠ some q) (fun q hq => ⟨hq.1.imp (fun h => h) (fun h => ⟨h.1, by omega⟩), fun e => by
   rcases at3 with h | h
   ·
    exact hq.2.1 (h ▸ e)
   ·
    rw [h] at e; injection e with e; exact hq.2.2 e.symm⟩)
  rw [hzs]
  exact A4.row hgs (fun q e => by
   injection e with e
   subst e
   exact ⟨hne.1, hne.2, fun hp => by
    rcases hp.1 with h | h
    ·
     exact hYn t htl h
    ·
     omega⟩)
 ·
  exact (((h.fr.then_ (Fr.of_below (Below.mono hBa (Nat.le_refl _)) : Fr (fun _ => False) wr Wa) (fun _ _ h => h.elim)).step g3 (fun q e => .inr (hol q e).1)).step hgs (fun q e => .inl (.inl (by injection e with e; rw [← e, GT.blocks_eq]; simp))))
theorem GT.nodup_kid {t : GT} (h : t.blocks.Nodup) {j : Nat} (hj : j < t.ks.length) : (t.ks[j]).blocks.Nodup ∧ ∀ b ∈ (t.ks[j]).blocks, b ≠ t.b ∧ b ∉ GT.blocksL (t.ks.take j) := by
 rw [GT.blocks_eq, List.nodup_cons] at h
 obtain ⟨h1, h2⟩ := h
 have e : GT.blocksL t.ks = (GT.blocksL (t.ks.take j) ++ (t.ks[j]).blocks) ++ GT.blocksL (t.ks.drop (j + 1)) := by
  rw [← GT.blocksL_take hj]
  conv => lhs; rw [← List.take_append_drop (j + 1) t.ks]
  unfold GT.blocksL
  rw [GT.subsL_append, List.map_append]
 rw [e, List.nodup_append] at h2
 rw [e] at h1
 have h3 := List.nodup_append.1 h2.1
 refine ⟨h3.2.1, fun b hb => ⟨fun e => h1 (by rw [← e]; simp [hb]), fun hm => h3.2.2 b hm b hb rfl⟩⟩
theorem GT.kid_in {t : GT} {j : Nat} (hj : j < t.ks.length) : ∀ b ∈ (t.ks[j]).blocks, b ∈ t.blocks := by
 intro b hb
 obtain ⟨s, hs, rfl⟩ := List.mem_map.1 hb
 rw [GT.blocks_eq]
 exact List.mem_cons_of_mem _ (List.mem_map.2 ⟨s, GT.mem_subsL (List.getElem_mem hj) s hs, rfl⟩)
theorem LayMid.next {l : List GT} {nb : Nat} {Z : Nat → Prop} {ids : Nat → Nat} {ab mb next : Nat} {fv mv cv uv sv : Value} {t : GT} {κ : Nat → Value} {c : Nat} {M : ArM} {Y : Nat → Prop} {w : World} {j : Nat} {κj : Nat → Value} {cj : Nat} {W4 w5 : World} {y3 z3 : Nat} (hj : j < t.ks.length) (hnd : t.blocks.Nodup)
 (hout : ∀ b, b ≠ t.b → b ∉ GT.blocksL (t.ks.take j) → κj b = κ b) (hcnt : cj ≤ c + (GT.blocksL (t.ks.take j)).length) (hblt : ∀ b ∈ (t.ks[j]).blocks, b < w.heap.size) (hmb : mb < w.heap.size)
 (own4 : W4.ownsRow w.heap.size 28 1 (.slice (some ⟨y3, 0, none⟩) (j + 1) z3) (j + 1) ((t.ks.take j).map (fun k => idV (ids k.b)) ++ [idV (ids t.ks[j].b)])) (hfr : Fr (fun q => q ∈ t.blocks ∨ q = mb) w W4)
 (h : LayRes l nb Z ids ab mb next fv mv cv uv sv t.ks[j] (upd κj t.b (.slice (some ⟨y3, 0, none⟩) (j + 1) z3)) cj (layML ids (t.ks.take j) M) (fun q => (Y q ∨ w.heap.size ≤ q ∧ q < W4.heap.size) ∧ (Value.slice (some ⟨y3, 0, none⟩) (j + 1) z3).ownBlock ≠ some q) W4 w5) :
 ∃ κ5 c5, LayMid l nb Z ids ab mb next fv mv cv uv sv t κ c M Y w (j + 1) (.slice (some ⟨y3, 0, none⟩) (j + 1) z3) κ5 c5 w5 := by
 obtain ⟨κ5, c5, h1, h2, h3, h4, h5, h6⟩ := h
 obtain ⟨n1, n2⟩ := GT.nodup_kid hnd hj
 have htk := GT.blocksL_take hj
 have hsub : t.ks.take (j + 1) = t.ks.take j ++ [t.ks[j]] := List.take_succ_eq_append_getElem hj
 have hfd : ∀ q, (Value.slice (some ⟨y3, 0, none⟩) (j + 1) z3).ownBlock = some q → w.heap.size ≤ q ∧ q < W4.heap.size := own4.lt
 refine ⟨κ5, c5, h1, ?_, fun b hb hb2 => ?_, h3, ?_, ?_, ?_, ?_⟩
 ·
  rw [h2 t.b (fun hm => (n2 _ hm).1 rfl), upd_same]
 ·
  rw [htk, List.mem_append] at hb2
  rw [h2 b (fun hm => hb2 (.inr hm)), upd_other _ _ hb]
  exact hout b hb (fun hm => hb2 (.inl hm))
 ·
  rw [htk, List.length_append, GT.blocks_len]; omega
 ·
  rw [hsub, List.map_append]
  exact ownsRow_fr own4 h6 (fun q e e' => by
   have := (hfd q e).1
   rcases e' with e' | e'
   ·
    have := hblt q e'; omega
   ·
    omega)
 ·
  rw [hsub, layML_snoc]
  refine h5.imp (fun q hq => ?_)
  rcases hq with ⟨hq, hq2⟩ | hq
  ·
   exact ⟨hq.imp (fun x => x) (fun x => ⟨x.1, Nat.lt_of_lt_of_le x.2 h6.size⟩), hq2⟩
  ·
   exact ⟨.inr ⟨Nat.le_trans hfr.size hq.1, hq.2⟩, fun e => by have := (hfd q e).2; omega⟩
 ·
  exact hfr.then_ h6 (fun q _ e => e.imp (fun x => GT.kid_in hj q x) (fun x => x))
set_option maxHeartbeats 8000000 in
set_option maxRecDepth 100000 in
theorem lay_any (l : List GT) (nb : Nat) (Z : Nat → Prop) (hA : Amb l nb Z) (ids : Nat → Nat) (ab mb next : Nat) (fv mv cv uv sv : Value) (hids : ∀ s ∈ l, 0 < ids s.b ∧ ids s.b ≤ 1000000) :
 ∀ (n : Nat) (t : GT), t ∈ l → t.subs.length ≤ n → t.blocks.Nodup → ∀ (κ : Nat → Value) (w : World) (c : Nat) (M : ArM) (Y : Nat → Prop), (∀ s ∈ l, NodeAt w ids κ Z s) → (∀ s ∈ t.subs, κ s.b = .slice none 0 0) → NmAt w nb (.pointer (some ⟨ab, 0, none⟩)) next fv mv cv uv sv → ArAtZ Y w ab mb c M →
   (∀ q, Z q → q < w.heap.size ∧ q ≠ mb) → (∀ q, Y q → q < w.heap.size) → (∀ s ∈ l, ¬ Y s.b) → nb ≠ mb → c + t.subs.length ≤ 10000 →
   Calls Tryz.prog 40 #[.pointer (some ⟨nb, 0, none⟩), ptrV t] w fun e w' => e = .returned (.tuple #[]) ∧ LayRes l nb Z ids ab mb next fv mv cv uv sv t κ c M Y w w' := by
 intro n
 induction n with
 | zero => intro t ht hn; rw [GT.subs_eq] at hn; simp at hn
 | succ n ih =>
   intro t ht hn hnd κ w c M Y hG hnil hN hR hZw hYw hYn hnm hcnt
   have IH := Lib.hid ih
   have HA := Lib.hid hA
   have HT := Lib.hid ht
   have HID := Lib.hid hids
   obtain ⟨i0, hi, hz0, hz1, hz2⟩ := info_parts idInfo30
   have hlts : ∀ s ∈ l, s.b < w.heap.size := fun s hs => (hG s hs).lt
   have habm := hR.lts
   have hlenk : t.subs.length = (GT.blocksL t.ks).length + 1 := by rw [GT.subs_eq, GT.blocksL_len]; rfl
   have hkl : t.ks.length ≤ 10000 := by have := GT.len_le t.ks; omega
   have HM0 := Lib.hid (show LayMid l nb Z ids ab mb next fv mv cv uv sv t κ c M Y w 0 (.slice none 0 0) κ c w from
    ⟨hG, hnil t (GT.self_mem t), fun b _ _ => rfl, hN, by simp [GT.blocksL, GT.subsL_nil], ⟨rfl, .inl ⟨rfl, rfl⟩⟩, by
     simp only [List.take_zero, layML]
     exact hR.imp (fun q h => ⟨.inl h, by simp [Value.ownBlock]⟩), Fr.refl _ _⟩)
   obtain ⟨a, cc, hh, hsl, hq⟩ := hG t ht
   have c8 := cell_of_row w t.b 8 _ _ (0, 0) hh
   simp at c8
   have HS := Lib.hid (show ∀ W, Fr (fun q => q ∈ t.blocks ∨ q = mb) w W → Sl W w.heap.size (.slice a t.ks.length cc) t.ks.length (t.ks.map ptrV) from fun W hf => hsl.fr (Nat.le_refl _) hf (fun q e e' => by
    have hz := hq q e
    rcases e' with e | e
    ·
     obtain ⟨s, hs, rfl⟩ := List.mem_map.1 e
     exact hA.nz s (Amb.subs hA n t ht hn s hs) hz
    ·
     exact (hZw q hz).2 e))
   have HX := Lib.hid (And.intro hnd (And.intro hnil (And.intro hZw (And.intro hYw (And.intro hYn (And.intro hlts (And.intro hN.lt (And.intro habm hnm))))))))
   clear hG hN hR hZw hYw hYn hlts habm hnil hnd hh hsl hq ih hA ht hids
   go_enter Tryz.func40, Tryz.ntmps40
   go_wp2
   go_loopw [11] (fun p wr => ∃ (j : Nat) (v : Value) (κj : Nat → Value) (cj : Nat), p = .int .i64 (j : Int) ∧ j ≤ t.ks.length ∧ LayMid l nb Z ids ab mb next fv mv cv uv sv t κ c M Y w j v κj cj wr) (fun p wr => t.ks.length - (intOf p).toNat)
   case atStart => exact ⟨0, _, _, _, rfl, Nat.zero_le _, HM0.out⟩
   case round =>
    obtain ⟨j, v, κj, cj, rfl, hj, hMid⟩ := hrel
    clear HM0
    by_cases hlt : j < t.ks.length
    ·
     obtain ⟨b, o, rfl, _, kc⟩ := (HS.out wr hMid.fr).mapAt hlt
     have hkm : t.ks[j] ∈ t.ks := List.getElem_mem hlt
     have hkl2 : t.ks[j] ∈ l := HA.out.kids t HT.out _ hkm
     have hnt := hMid.node t HT.out
     have hnk := hMid.node t.ks[j] hkl2
     have htbr := hnt.lt
     have hkbr := hnk.lt
     obtain ⟨_, _, hht, _⟩ := hnt
     obtain ⟨_, _, hhk, _⟩ := hnk
     have c5 := cell_of_row wr t.b 5 _ _ (0, 0) hht
     have c9 := cell_of_row wr t.ks[j].b 9 _ _ (0, 0) hhk
     simp at c5 c9
     rw [hMid.here] at c5
     have f5 : ∀ i, wr.frozen? ⟨t.b, i, none⟩ = false := fun i => by simp [World.frozen?, hht]
     have htw := HX.out.2.2.2.2.2.1 t HT.out
     have hkw := HX.out.2.2.2.2.2.1 t.ks[j] hkl2
     have HOW := Lib.hid (show wr.drew.ownsRow w.heap.size 28 1 v j ((t.ks.take j).map (fun k => idV (ids k.b))) from hMid.own)
     have HOL := Lib.hid (fun q e => (hMid.own.lt q e).1)
     have HFR := Lib.hid hMid.fr
     have HMD := Lib.hid hMid
     have hHeld : (fun w' => w'.cell? ⟨t.b, 5, none⟩ = some v ∧ w'.cell? ⟨t.ks[j].b, 9, none⟩ = some (.int .u64 (ids t.ks[j].b : Int))) wr.drew := ⟨c5, c9⟩
     clear hMid hht hhk
     go_wp2
     refine wp_region_two (fun w' => w'.cell? ⟨t.b, 5, none⟩ = some v ∧ w'.cell? ⟨t.ks[j].b, 9, none⟩ = some (.int .u64 (ids t.ks[j].b : Int))) 12 (by kernel_rfl) ?_
     refine tk 0 ?_ rfl (by kernel_rfl) (fun _ _ _ h => h) ‹_› ?_ ?_ (tk 1 ?_ rfl (by kernel_rfl) (fun _ _ _ h => h) ‹_› ?_ ?_ (tk 2 ?_ rfl (by kernel_rfl) (fun _ _ _ h => h) ‹_› ?_ ?_ (tk 3 ?_ rfl (by kernel_rfl) (fun _ _ _ h => h) ‹_› ?_ ?_ (tk 4 ?_ rfl (by kernel_rfl) (fun _ _ _ h => h) ‹_› ?_ ?_ (tk 5 ?_ rfl (by kernel_rfl) (fun _ _ _ h => h) ‹_› ?_ ?_ (tk 6 ?_ rfl (by kernel_rfl) (fun _ _ _ h => h) ‹_› ?_ ?_ (tk 7 ?_ rfl (by kernel_rfl) (fun _ _ _ h => h) ‹_› ?_ ?_ (tk 8 ?_ rfl (by kernel_rfl) (fun _ _ _ h => h) ‹_› ?_ ?_ (tk 9 ?_ rfl (by kernel_rfl) (fun _ _ _ h => h) ‹_› ?_ ?_ ?_)))))))))
     all_goals try (first | rfl | ((try simp only [Act.put, sA, sB, sC]); intro w' hSw; (try dsimp only at hSw); go_simp; try with_reducible rfl))
     try simp only [Act.put, sA, sB, sC]
     refine wpAnyT_one (i := 10) rfl (by kernel_rfl) (fun K hK => ?_)
     go_simp
     generalize hWa : World.alloc _ _ = Wa
     obtain ⟨hBa, hha, hza⟩ := new_alloc hWa
     have HZa := Lib.hid hza
     have HBa := Lib.hid hBa
     clear hza hWa hBa
     refine hK.out _ _ (⟨(HBa.out.cell (p := ⟨t.b, 5, none⟩) htbr).trans hHeld.1, (HBa.out.cell (p := ⟨t.ks[j].b, 9, none⟩) hkbr).trans hHeld.2⟩) (fun hHeld => ?_)
     clear hK K
     try simp only [Act.put, sA, sB, sC]
     refine wpAnyT_one (i := 11) rfl (by kernel_rfl) (fun K hK => ?_)
     refine step_append_own rfl (.tmp 20) (.tmp 25) _ rfl w.heap.size 28 i0 _ 1 8 Tryz.underlying29 hi hz0 hz1 hz2 rfl (by decide) v j ((t.ks.take j).map (fun k => idV (ids k.b))) rfl (own_below HOW.out (show Below wr.heap.size wr.drew Wa.drew from ⟨HBa.out.os, HBa.out.tape, HBa.out.output, HBa.out.size, HBa.out.block⟩) (Nat.le_refl _)) ⟨wr.heap.size, 0, none⟩ 1 1 [idV (ids t.ks[j].b)] rfl rfl ?_ (by intro u hu; simp only [List.mem_singleton] at hu; subst hu; rfl) ?_ ?_ ?_ ?_
     ·
      exact cells_at hha
     ·
      unfold maxLen; omega
     ·
      omega
     ·
      have := HFR.out.size; have := HZa.out; show w.heap.size ≤ Wa.heap.size; omega
     intro v3 W3 own3 g3 at3
     obtain ⟨y3, z3, rfl⟩ := ownsRow_succ own3
     have hnb1 : (some t.b : Option Nat) ≠ v.ownBlock := fun e => by have := HOL.out t.b e.symm; omega
     have hnb2 : (some t.ks[j].b : Option Nat) ≠ v.ownBlock := fun e => by have := HOL.out t.ks[j].b e.symm; omega
     have HG3 := Lib.hid (show Wa.grownBy W3 v.ownBlock from ⟨g3.os, g3.tape, g3.output, g3.size, g3.block⟩)
     have HO3 := Lib.hid (And.intro own3 at3)
     clear own3 at3
     refine hK.out _ _ (⟨g3.cell hHeld.1 hnb1, g3.cell hHeld.2 hnb2⟩) (fun hHeld => ?_)
     clear hK K
     try simp only [Act.put, sA, sB, sC]
     refine wpAnyT_tail (by kernel_rfl) ?_
     simp only [List.drop_succ_cons, List.drop_zero]
     have f5 : ∀ i, W3.frozen? ⟨t.b, i, none⟩ = false := fun i => (World.frozen?_of_block (a := ⟨t.b, i, none⟩) ((HG3.out.block t.b (Nat.lt_of_lt_of_le htbr HBa.out.size) hnb1).trans (HBa.out.block t.b htbr))).trans (f5 i)
     have c5 := hHeld.1
     have HGR := Lib.hid (HMD.out.grow (fun q hz => (HX.out.2.2.1 q hz).1) HX.out.2.2.2.1 HX.out.2.2.2.2.2.1 HT.out (HA.out.nz t HT.out) HX.out.2.2.2.2.1 HX.out.2.2.2.2.2.2.1 (HA.out.ne t HT.out) HX.out.2.2.2.2.2.2.2.1 HBa.out HG3.out (idV (ids t.ks[j].b)) HO3.out.1 HO3.out.2)
     have hsub := GT.len_lt hkm
     have htake := GT.blocksL_take hlt
     have hle := GT.subsL_take_le t.ks (j + 1)
     rw [htake, List.length_append, GT.blocks_len] at hle
     have hcm := HMD.out.cnt
     have TL := Lib.hid (IH.out t.ks[j] hkl2 (by omega) (GT.nodup_kid HX.out.1 hlt).1 _ _ cj _ _ HGR.out.1 (fun s hs => by
      have hb := GT.subs_b hs
      have h1 := (GT.nodup_kid HX.out.1 hlt).2 s.b hb
      rw [upd_other _ _ h1.1, HMD.out.out s.b h1.1 h1.2]
      exact HX.out.2.1 s (by rw [GT.subs_eq]; exact List.mem_cons_of_mem _ (GT.mem_subsL hkm s hs))) HGR.out.2.1 HGR.out.2.2.2.1 (fun q hz => ⟨Nat.lt_of_lt_of_le (HX.out.2.2.1 q hz).1 HGR.out.2.2.2.2.size, (HX.out.2.2.1 q hz).2⟩) (fun q hq => by
      rcases hq.1 with h | h
      ·
       exact Nat.lt_of_lt_of_le (HX.out.2.2.2.1 q h) HGR.out.2.2.2.2.size
      ·
       exact h.2) (fun s hs hq => by
      rcases hq.1 with h | h
      ·
       exact HX.out.2.2.2.2.1 s hs h
      ·
       have := HX.out.2.2.2.2.2.1 s hs; omega) hnm (by omega))
     have HBL := Lib.hid (show ∀ b ∈ (t.ks[j]).blocks, b < w.heap.size from fun b hb => by
      obtain ⟨s, hs, rfl⟩ := List.mem_map.1 hb
      exact HX.out.2.2.2.2.2.1 s (Amb.subs HA.out n t HT.out hn s (by rw [GT.subs_eq]; exact List.mem_cons_of_mem _ (GT.mem_subsL hkm s hs))))
     have HLT := Lib.hid hlt
     clear hHeld g3 hha hnb1 hnb2 c9 hsub htake hle hcm hkm hkbr htw hkw
     go_wp2_with fail
     refine TL.out.mono ?_
     rintro e w5 ⟨rfl, hR5⟩
     obtain ⟨κ5, c5', hM5⟩ := LayMid.next HLT.out HX.out.1 HMD.out.out HMD.out.cnt HBL.out HX.out.2.2.2.2.2.2.2.1.2 HGR.out.2.2.1 HGR.out.2.2.2.2 hR5
     have HM5 := Lib.hid hM5
     clear hR5 hM5 HGR TL HMD HBL HO3 HG3 HBa HZa HFR HOL HOW
     go_wp2
     go_roundw
     case rel => exact ⟨j + 1, _, κ5, c5', by go_num, by omega, HM5.out⟩
     case measure => simp [intOf]; omega
    ·
     obtain rfl : j = t.ks.length := by omega
     have hkids : (t.node ids).kids.length = t.ks.length := by simp [GT.node]
     have hnt := hMid.node t HT.out
     obtain ⟨_, _, hht, _⟩ := hnt
     rw [hMid.here] at hht
     have hsl := Sl.of_own hMid.own
     obtain ⟨ka, kc, rfl⟩ := hsl.form
     rw [List.take_length, ← hkids] at hsl
     rw [← hkids] at hht
     have hsl2 : Sl wr wr.heap.size (.slice ka (t.node ids).kids.length kc) (t.node ids).kids.length ((t.node ids).kids.map idV) := by
      have e : t.ks.map (fun k => idV (ids k.b)) = (t.node ids).kids.map idV := by simp [GT.node, List.map_map]
      rw [e] at hsl
      exact hsl
     have har := hMid.ar
     rw [List.take_length] at har
     have hcm := hMid.cnt
     rw [List.take_length] at hcm
     have hido := HID.out t HT.out
     have TP := Lib.hid (put_any _ ab mb cj (layML ids t.ks M) (ids t.b) (t.node ids) ka kc wr.drew (har.below ((Below.refl _ _).drew) (Nat.le_refl _)) (by unfold idTop; omega) (by omega) (.inr (by omega)) (by omega) hsl2 (by omega))
     have k := fun i => cell_of_row wr t.b i _ _ (0, 0) hht
     have k0 := k 0; have k1 := k 1; have k2 := k 2; have k3 := k 3; have k4 := k 4; have k5 := k 5; have k9 := k 9
     simp at k0 k1 k2 k3 k4 k5 k9
     obtain ⟨n0, -, -, -, -, -, -, -⟩ := hMid.nm.cells
     have HMD := Lib.hid hMid
     have HCM := Lib.hid hcm
     have hHeld : (fun w' => w'.cell? ⟨nb, 0, none⟩ = some (.pointer (some ⟨ab, 0, none⟩)) ∧ w'.cell? ⟨t.b, 9, none⟩ = some (.int .u64 (ids t.b : Int)) ∧ w'.cell? ⟨t.b, 0, none⟩ = some (.int .u8 (t.nd.kind : Int)) ∧ w'.cell? ⟨t.b, 1, none⟩ = some (strV t.nd.name) ∧ w'.cell? ⟨t.b, 2, none⟩ = some (.int .i64 t.nd.num) ∧ w'.cell? ⟨t.b, 3, none⟩ = some (.int .u8 (t.nd.type : Int)) ∧ w'.cell? ⟨t.b, 4, none⟩ = some (.int .u64 (t.nd.ref : Int)) ∧ w'.cell? ⟨t.b, 5, none⟩ = some (.slice ka (t.node ids).kids.length kc)) wr.drew := ⟨n0, k9, k0, k1, k2, k3, k4, k5⟩
     clear hMid hht hsl hsl2 har hcm k hkids hido
     go_wp2
     refine wp_region_two (fun w' => w'.cell? ⟨nb, 0, none⟩ = some (.pointer (some ⟨ab, 0, none⟩)) ∧ w'.cell? ⟨t.b, 9, none⟩ = some (.int .u64 (ids t.b : Int)) ∧ w'.cell? ⟨t.b, 0, none⟩ = some (.int .u8 (t.nd.kind : Int)) ∧ w'.cell? ⟨t.b, 1, none⟩ = some (strV t.nd.name) ∧ w'.cell? ⟨t.b, 2, none⟩ = some (.int .i64 t.nd.num) ∧ w'.cell? ⟨t.b, 3, none⟩ = some (.int .u8 (t.nd.type : Int)) ∧ w'.cell? ⟨t.b, 4, none⟩ = some (.int .u64 (t.nd.ref : Int)) ∧ w'.cell? ⟨t.b, 5, none⟩ = some (.slice ka (t.node ids).kids.length kc)) 12 (by kernel_rfl) ?_
     refine tk 0 ?_ rfl (by kernel_rfl) (fun _ _ _ h => h) ‹_› ?_ ?_ (tk 1 ?_ rfl (by kernel_rfl) (fun _ _ _ h => h) ‹_› ?_ ?_ (tk 2 ?_ rfl (by kernel_rfl) (fun _ _ _ h => h) ‹_› ?_ ?_ (tk 3 ?_ rfl (by kernel_rfl) (fun _ _ _ h => h) ‹_› ?_ ?_ (tk 4 ?_ rfl (by kernel_rfl) (fun _ _ _ h => h) ‹_› ?_ ?_ (tk 5 ?_ rfl (by kernel_rfl) (fun _ _ _ h => h) ‹_› ?_ ?_ (tk 6 ?_ rfl (by kernel_rfl) (fun _ _ _ h => h) ‹_› ?_ ?_ (tk 7 ?_ rfl (by kernel_rfl) (fun _ _ _ h => h) ‹_› ?_ ?_ (tk 8 ?_ rfl (by kernel_rfl) (fun _ _ _ h => h) ‹_› ?_ ?_ (tk 9 ?_ rfl (by kernel_rfl) (fun _ _ _ h => h) ‹_› ?_ ?_ (tk 10 ?_ rfl (by kernel_rfl) (fun _ _ _ h => h) ‹_› ?_ ?_ (tk 11 ?_ rfl (by kernel_rfl) (fun _ _ _ h => h) ‹_› ?_ ?_ ?_)))))))))))
     all_goals try (first | rfl | ((try simp only [Act.put, sA, sB, sC]); intro w' hSw; (try dsimp only at hSw); go_simp; try with_reducible rfl))
     try simp only [Act.put, sA, sB, sC]
     refine wpAnyT_tail (by kernel_rfl) ?_
     simp only [List.drop_succ_cons, List.drop_zero]
     go_wp2_with fail
     refine TP.out.mono ?_
     rintro e w6 ⟨rfl, hA6, hg6⟩
     have HF := Lib.hid (show LayRes l nb Z ids ab mb next fv mv cv uv sv t κ c M Y w w6 from by
      have hm := HMD.out
      have hg6' : wr.grownBy w6 (some mb) := ⟨hg6.os, hg6.tape, hg6.output, hg6.size, hg6.block⟩
      refine ⟨κj, if ((layML ids t.ks M) (ids t.b)).isSome then cj else cj + 1, fun s hs => (hm.node s hs).keep hg6' (fun e => by injection e with e; exact (ar_not_node hm.ar (hm.node s hs)).2 e.symm) (fun q e hz => by injection e with e; exact (HX.out.2.2.1 q hz).2 e.symm), fun b hb => ?_, (hg6'.block nb hm.nm.lt (fun e => by injection e with e; exact hnm e)).trans hm.nm, ?_, ?_, hm.fr.step hg6' (fun q e => .inl (.inr (by injection e with e; exact e.symm)))⟩
      ·
       rw [GT.blocks_eq, List.mem_cons] at hb
       exact hm.out b (fun e => hb (.inl e)) (fun e => hb (.inr (by rw [List.take_length] at e; exact e)))
      ·
       have h1 := HCM.out
       split <;> omega
      ·
       rw [layM_eq]
       refine hA6.imp (fun q hq => ?_)
       rcases hq with ⟨hq, _⟩ | hq
       ·
        exact hq.imp (fun x => x) (fun x => ⟨x.1, Nat.lt_of_lt_of_le x.2 hg6'.size⟩)
       ·
        exact .inr ⟨Nat.le_trans hm.fr.size hq.1, hq.2⟩)
     clear hA6 hg6 HMD TP hHeld
     go_wp2
     go_end0
     exact ⟨rfl, HF.out⟩
end Go.Proofs.YtihmbbkppkgcmaaGreatDoor
namespace Go.Proofs.YtihmbbkppkgcmaaGreatDoor
open Go.RowKit
theorem ArAtZ.fr {D : Nat → Prop} {Z : Nat → Prop} {w w' : World} {ab mb c : Nat} {M : Nat → Option Hg.Node} (h : ArAtZ Z w ab mb c M) (hf : Fr D w w') (h1 : ¬ D ab) (h2 : ¬ D mb) (h3 : ∀ q, Z q → ¬ D q) : ArAtZ Z w' ab mb c M := by
 obtain ⟨h0, ⟨E, hw, hc, hk⟩, hbd⟩ := h
 refine ⟨hf.at_ h0 h1, ⟨E, ownsMap_fr hw hf h2, hc, fun id hid => ?_⟩, hbd⟩
 have hx := hk id hid
 cases hM : M id with
 | none => rw [hM] at hx; exact hx
 | some nd =>
   rw [hM] at hx
   obtain ⟨ka, kc, g1, g2, g3⟩ := hx
   exact ⟨ka, kc, g1, (g2.fr (Nat.le_refl _) hf (fun q e => h3 q (g3 q e))).more hf.size, g3⟩
theorem setN_out : ∀ (l : List Nat) (ids : Nat → Nat) (n : Nat) (b : Nat), b ∉ l → setN ids n l b = ids b
 | [], ids, n, b, h => rfl
 | x :: l, ids, n, b, h => by
   show setN (upd ids x n) (n + 1) l b = ids b
   rw [setN_out l _ _ b (fun hm => h (List.mem_cons_of_mem _ hm)), upd_other _ _ (fun e => h (by rw [e]; simp))]
theorem setN_get : ∀ (l : List Nat) (ids : Nat → Nat) (n k b : Nat), l.Nodup → l[k]? = some b → setN ids n l b = n + k
 | [], ids, n, k, b, _, h => by simp at h
 | x :: l, ids, n, 0, b, hn, h => by
   simp at h
   subst h
   show setN (upd ids x n) (n + 1) l x = n + 0
   rw [setN_out l _ _ x (List.nodup_cons.1 hn).1, upd_same]
   rfl
 | x :: l, ids, n, k + 1, b, hn, h => by
   show setN (upd ids x n) (n + 1) l b = n + (k + 1)
   rw [setN_get l _ (n + 1) k b (List.nodup_cons.1 hn).2 (by simpa using h)]
   omega
def GParseRes (ms : Mods) (w : World) (e : Ending) (w' : World) : Prop :=
 ∃ t ab mb c, ProgSh ms t ∧ t.blocks.Nodup ∧ e = .returned (.tuple #[.pointer (some ⟨ab, 0, none⟩), .int .i64 0]) ∧ ArAt w' ab mb c (layM (setN id0 1 t.blocks) t rootM) ∧ Below w.heap.size w w'
set_option maxHeartbeats 8000000 in
set_option maxRecDepth 100000 in
theorem gparse_any (s : List UInt8) (L : List Hg.Tok) (ms : Mods) (w : World) (hl : s.length ≤ 100000) (hr : Hg.r8all s = some L) (hN : NumOk L) (hTab : TabOk w) (hP : ProgAt L ms) (hL : L.length ≤ 1000000) (hOk : ∀ t, ProgSh ms t → NamesOk [] t) :
 Calls Tryz.prog 20 #[.string ⟨s.toArray⟩] w (GParseRes ms w) := by
 have T1 := Lib.hid (allT_any s L w hl hr hN hTab)
 have HP := Lib.hid hP
 have HOK := Lib.hid hOk
 have hmm := @run_makeMap Tryz.prog
 clear hr hN hTab hP hOk
 go_enter Tryz.func20, Tryz.ntmps20
 go_wp2_with fail
 refine T1.out.mono ?_
 rintro e w1 ⟨a1, c1, rfl, hs1, hb1⟩
 have hpa : PaAt (w1.alloc (.cells #[.slice a1 L.length c1, .int .i64 0, .int .i64 0, .bool false] 89)) w1.heap.size L 0 :=
  ⟨a1, c1, heap_alloc_new w1 _, hs1.alloc (Nat.le_refl _) _⟩
 have hbp : Below w.heap.size w (w1.alloc (.cells #[.slice a1 L.length c1, .int .i64 0, .int .i64 0, .bool false] 89)) := hb1.alloc hb1.size _
 have hlp : w.heap.size ≤ w1.heap.size := hb1.size
 have T2 := Lib.hid (prog_any w1.heap.size L ms _ hpa hL HP.out)
 have HBP := Lib.hid hbp
 have hzp : (w1.alloc (.cells #[.slice a1 L.length c1, .int .i64 0, .int .i64 0, .bool false] 89)).heap.size = w1.heap.size + 1 := by simp
 have HZP := Lib.hid hzp
 clear T1 hs1 hb1 hpa hbp hzp
 go_wp2_with fail
 generalize World.alloc w1 _ = WP at T2 HBP HZP ⊢
 refine T2.out.mono ?_
 rintro e w3 ⟨t, rfl, hsh, hF3, hp3, hg3⟩
 obtain ⟨-, -, -, -, -, c3, -, -⟩ := hp3.read
 have HF3 := Lib.hid hF3
 have HSH := Lib.hid hsh
 have HB3 := Lib.hid (show Below w.heap.size w w3 from HBP.out.grown hg3 HBP.out.size (fun k hk => by injection hk with hk; omega))
 have hz3 : WP.heap.size ≤ w3.heap.size := hg3.size
 clear T2 hp3 hg3 hF3 hsh
 have T3 := Lib.hid (fun W => new_any (fun _ => False) W)
 go_wp2_with fail
 refine (T3.out _).mono ?_
 rintro e w4 ⟨ab, mb, rfl, hab, hmb, hA4, hb4⟩
 have hOK := HOK.out t HSH.out
 have hsz := hOK.sz
 have hlw3 : w.heap.size ≤ w3.heap.size := HB3.out.size
 have hsubs : GT.subsL [t] = t.subs := by rw [GT.subsL_cons, GT.subsL_nil, List.append_nil]
 have hF3 := HF3.out
 have hnode3 := hF3.node
 have hlo3 := hF3.lo
 have hnd3 := hF3.nodup
 have hlt3 := hF3.lt
 have hblk : GT.blocksL [t] = t.blocks := by unfold GT.blocksL; rw [hsubs]; rfl
 rw [hsubs] at hnode3
 rw [hblk] at hlo3 hnd3 hlt3
 have hbB : Below w3.heap.size w3 (((w4.alloc (.map #[] 0)).alloc (.map #[] 0)).alloc (.cells (nmCells (.pointer (some ⟨ab, 0, none⟩)) 1 (.map (some w4.heap.size)) (.map (some (w4.heap.size + 1))) (.slice none 0 0) (.map none) (.slice none 0 0)) 98)) :=
  ((hb4.alloc hb4.size _).alloc (by have := hb4.size; simp; omega) _).alloc (by have := hb4.size; simp; omega) _
 have hbB4 : Below w4.heap.size w4 (((w4.alloc (.map #[] 0)).alloc (.map #[] 0)).alloc (.cells (nmCells (.pointer (some ⟨ab, 0, none⟩)) 1 (.map (some w4.heap.size)) (.map (some (w4.heap.size + 1))) (.slice none 0 0) (.map none) (.slice none 0 0)) 98)) :=
  (((Below.refl _ _).alloc (Nat.le_refl _) _).alloc (by simp) _).alloc (by simp; omega) _
 have hzB : (((w4.alloc (.map #[] 0)).alloc (.map #[] 0)).alloc (.cells (nmCells (.pointer (some ⟨ab, 0, none⟩)) 1 (.map (some w4.heap.size)) (.map (some (w4.heap.size + 1))) (.slice none 0 0) (.map none) (.slice none 0 0)) 98)).heap.size = w4.heap.size + 3 := by simp
 have hNB : NmAt (((w4.alloc (.map #[] 0)).alloc (.map #[] 0)).alloc (.cells (nmCells (.pointer (some ⟨ab, 0, none⟩)) 1 (.map (some w4.heap.size)) (.map (some (w4.heap.size + 1))) (.slice none 0 0) (.map none) (.slice none 0 0)) 98)) (w4.heap.size + 1 + 1) (.pointer (some ⟨ab, 0, none⟩)) 1 (.map (some w4.heap.size)) (.map (some (w4.heap.size + 1))) (.slice none 0 0) (.map none) (.slice none 0 0) := by
  have := heap_alloc_new ((w4.alloc (.map #[] 0)).alloc (.map #[] 0)) (.cells (nmCells (.pointer (some ⟨ab, 0, none⟩)) 1 (.map (some w4.heap.size)) (.map (some (w4.heap.size + 1))) (.slice none 0 0) (.map none) (.slice none 0 0)) 98)
  unfold NmAt
  simpa using this
 have hFB : FMap (((w4.alloc (.map #[] 0)).alloc (.map #[] 0)).alloc (.cells (nmCells (.pointer (some ⟨ab, 0, none⟩)) 1 (.map (some w4.heap.size)) (.map (some (w4.heap.size + 1))) (.slice none 0 0) (.map none) (.slice none 0 0)) 98)) w4.heap.size [] := by
  refine (KMap.made 135 fullV w4).keep ?_
  exact (heap_alloc_old _ _ (by simp; omega)).trans (heap_alloc_old _ _ (by simp))
 have hMB : SMap (((w4.alloc (.map #[] 0)).alloc (.map #[] 0)).alloc (.cells (nmCells (.pointer (some ⟨ab, 0, none⟩)) 1 (.map (some w4.heap.size)) (.map (some (w4.heap.size + 1))) (.slice none 0 0) (.map none) (.slice none 0 0)) 98)) (w4.heap.size + 1) [] := by
  have h := KMap.made 9 strV (w4.alloc (.map #[] 0))
  rw [show (w4.alloc (.map #[] 0)).heap.size = w4.heap.size + 1 by simp] at h
  exact h.keep (heap_alloc_old _ _ (by simp))
 have hAB := hA4.below hbB4 (Nat.le_refl _)
 have h34 := hb4.size
 have hab4 := hA4.lts
 have hGB : ∀ s ∈ t.subs, NodeAt (((w4.alloc (.map #[] 0)).alloc (.map #[] 0)).alloc (.cells (nmCells (.pointer (some ⟨ab, 0, none⟩)) 1 (.map (some w4.heap.size)) (.map (some (w4.heap.size + 1))) (.slice none 0 0) (.map none) (.slice none 0 0)) 98)) id0 nilK (fun q => WP.heap.size ≤ q ∧ q < w3.heap.size ∧ q ∉ GT.blocksL [t] ∧ ¬ False) s := fun s hs =>
  (hnode3 s hs).fr (Fr.of_below hbB : Fr (fun _ => False) w3 _) (fun h => h) (fun _ _ h => h)
 have hFRB := Lib.hid ((Fr.of_below (HB3.out.mono (Nat.le_refl _)) : Fr (fun q => w.heap.size ≤ q) w w3).step (below_grown50 hbB none) (fun q e => by cases e))
 generalize hZd : (fun q => WP.heap.size ≤ q ∧ q < w3.heap.size ∧ q ∉ GT.blocksL [t] ∧ ¬ False) = Z at hGB
 have hZl : ∀ q, Z q → q < w3.heap.size := fun q h => by rw [← hZd] at h; exact h.2.1
 have hZb : ∀ q, Z q → q ∉ t.blocks := fun q h => by rw [← hZd, hblk] at h; exact h.2.2.1
 have hAmb : Amb t.subs (w4.heap.size + 1 + 1) Z := ⟨GT.closed t, fun s hs hz => hZb _ hz (GT.subs_b hs), fun hz => by have := hZl _ hz; omega, fun s hs e => by have := hlt3 _ (GT.subs_b hs); omega⟩
 have T4 := Lib.hid (number_any t.subs (w4.heap.size + 1 + 1) Z hAmb nilK _ _ _ _ _ _ t.subs.length t (GT.self_mem t) (Nat.le_refl _) id0 1 _ hGB hNB (by omega))
 have HAMB := Lib.hid hAmb
 have HZ := Lib.hid (And.intro hZl hZb)
 have HND := Lib.hid (And.intro hlo3 (And.intro hnd3 hlt3))
 have HOK2 := Lib.hid hOK
 have HMP := Lib.hid (And.intro hFB (And.intro hMB hAB))
 have HAB4 := Lib.hid hab4
 have HZB := Lib.hid hzB
 have HNB := Lib.hid hNB
 clear hF3 hnode3 hlo3 hnd3 hlt3 hZd hZl hZb hAmb hbB hbB4 hzB hNB hFB hMB hAB hGB hA4 hb4 hOK HF3 HOK T3 hsubs hblk hab4
 go_wp2_with fail
 refine T4.out.mono ?_
 rintro e w5 ⟨rfl, hG5, hN5, hf5⟩
 have hzb := HZB.out
 have hab4 := HAB4.out
 have hin : ∀ q, InB t.subs (w4.heap.size + 1 + 1) q → q = w4.heap.size + 1 + 1 ∨ (WP.heap.size ≤ q ∧ q < w3.heap.size) := fun q h => by
  rcases h with h | ⟨x, hx, h⟩
  ·
   exact .inl h
  ·
   exact .inr ⟨h ▸ HND.out.1 _ (GT.subs_b hx), h ▸ HND.out.2.2 _ (GT.subs_b hx)⟩
 have hwp : w.heap.size ≤ WP.heap.size := HBP.out.size
 have HFR5 := Lib.hid (hFRB.out.then_ hf5 (fun q _ e => by rcases hin q e with h | h <;> omega))
 have hF5 : FMap w5 w4.heap.size [] := HMP.out.1.keep (hf5.block _ HMP.out.1.lt (fun e => by rcases hin _ e with h | h <;> omega))
 have hM5 : SMap w5 (w4.heap.size + 1) [] := HMP.out.2.1.keep (hf5.block _ HMP.out.2.1.lt (fun e => by rcases hin _ e with h | h <;> omega))
 have HA5 := Lib.hid (HMP.out.2.2.fr hf5 (fun e => by rcases hin _ e with h | h <;> omega) (fun e => by rcases hin _ e with h | h <;> omega) (fun q h => h.elim))
 have HG5 := Lib.hid hG5
 have hok := HOK2.out
 have T5 := Lib.hid (all_any t.subs (w4.heap.size + 1 + 1) w4.heap.size (w4.heap.size + 1) Z HAMB.out _ _ _ _ _ _ t w5 hG5 hN5 hF5 hM5 (by omega) (GT.self_mem t) (fun hz => by have := HZ.out.1 _ hz; omega) (fun hz => by have := HZ.out.1 _ hz; omega) ⟨hok.sz, hok.dist, hok.dist2, hok.short, hok.plain⟩)
 obtain ⟨-, n1, -, -, -, -, -, -⟩ := hN5.cells
 have hq1 : decide (20001 < ((1 + t.subs.length : Nat) : Int)) = false := by simp; omega
 have hq2 : decide (20001 < 1 + t.subs.length) = false := by simp; omega
 have hq3 : decide ((20001 : Int) < 1 + (t.subs.length : Int)) = false := by simp; omega
 have HNE := Lib.hid (show ∀ s ∈ t.subs, s.b < w3.heap.size from fun s hs => HND.out.2.2 _ (GT.subs_b hs))
 clear T4 hG5 hf5 hin hF5 hM5 hok hN5 HMP hFRB
 go_wp2_with fail
 refine T5.out.mono ?_
 rintro e w6 ⟨rfl, uv6, sv6, hN6, hf6⟩
 have HFR6 := Lib.hid (HFR5.out.then_ hf6 (fun q _ e => by rcases e with e | e | e <;> omega))
 have hA6 := HA5.out.fr hf6 (fun e => by rcases e with e | e | e <;> omega) (fun e => by rcases e with e | e | e <;> omega) (fun q h => h.elim)
 have hG6 : ∀ s ∈ t.subs, NodeAt w6 (setN id0 1 t.blocks) nilK Z s := fun s hs => (HG5.out s hs).fr hf6 (fun e => by have := HNE.out s hs; rcases e with e | e | e <;> omega) (fun q hz e => by have := HZ.out.1 q hz; rcases e with e | e | e <;> omega)
 have hids : ∀ s ∈ t.subs, 0 < setN id0 1 t.blocks s.b ∧ setN id0 1 t.blocks s.b ≤ 1000000 := fun s hs => by
  obtain ⟨k, hk, he⟩ := List.mem_iff_getElem.1 (GT.subs_b hs)
  rw [setN_get t.blocks id0 1 k s.b HND.out.2.1 (by rw [List.getElem?_eq_getElem hk, he])]
  rw [GT.blocks_len] at hk
  omega
 have hw36 : w3.heap.size ≤ w6.heap.size := by have := hA6.lts; omega
 have T6 := Lib.hid (lay_any t.subs (w4.heap.size + 1 + 1) Z HAMB.out (setN id0 1 t.blocks) ab mb _ _ _ _ _ _ hids t.subs.length t (GT.self_mem t) (Nat.le_refl _) HND.out.2.1 nilK w6 1 rootM (fun _ => False) hG6 (fun _ _ => rfl) hN6 hA6 (fun q hz => by have := HZ.out.1 q hz; omega) (fun q h => h.elim) (fun s _ h => h) (by omega) (by omega))
 clear T5 hN6 hf6 hA6 hG6 hids HG5 HA5 HFR5
 go_wp2_with fail
 refine T6.out.mono ?_
 rintro e w7 ⟨rfl, κ7, c7, hG7, hκ7, hN7, hc7, hA7, hf7⟩
 obtain ⟨n0, -, -, -, -, -, -, -⟩ := hN7.cells
 have HFIN := Lib.hid (show ArAt w7 ab mb c7 (layM (setN id0 1 t.blocks) t rootM) ∧ Below w.heap.size w w7 from ⟨hA7.weak, (HFR6.out.then_ hf7 (fun q _ e => by
  rcases e with e | e
  ·
   have := HND.out.1 q e; omega
  ·
   omega)).below (fun q h h' => by omega)⟩)
 clear T6 hG7 hκ7 hN7 hc7 hA7 hf7 HFR6
 go_wp2
 exact bodyPost_ret (v := .tuple #[.pointer (some ⟨ab, 0, none⟩), .int .i64 0]) (by simp [results, Tryz.results20, go_sem]) rfl ⟨t, ab, mb, c7, HSH.out, HND.out.2.1, rfl, HFIN.out.1, HFIN.out.2⟩
end Go.Proofs.YtihmbbkppkgcmaaGreatDoor
