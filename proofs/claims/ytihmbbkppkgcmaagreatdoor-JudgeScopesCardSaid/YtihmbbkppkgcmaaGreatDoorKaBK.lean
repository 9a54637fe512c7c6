/-
  Part of a proof: contracts of functions that the claim reaches, and plain lemmas.
-/
import Derived.Test.YtihmbbkppkgcmaaGreatDoorKaBJ
import Derived.Test.YtihmbbkppkgcmaaGreatDoorKaAZ
import Derived.DeepKeys3
set_option linter.all false
namespace Go.Proofs.YtihmbbkppkgcmaaGreatDoor
open Go.RowKit
def KMap {α : Type} (k : TypeId) (enc : α → Value) (w : World) (b : Nat) (K : List α) : Prop := ∃ n D, n ≤ K.length ∧ w.ownsMap Tryz.prog k rawR b n D ∧ ∀ x l, x ∉ K → keyOf Tryz.prog k (enc x) = some l → Maps.has D l = false
theorem KMap.made {α : Type} (k : TypeId) (enc : α → Value) (w : World) : KMap k enc (w.alloc (.map #[] 0)) w.heap.size [] :=
 ⟨0, _, Nat.le_refl _, World.ownsMap_made w _ _ _, fun _ _ _ _ => rfl⟩
theorem KMap.lt {α : Type} {k : TypeId} {enc : α → Value} {w : World} {b : Nat} {K : List α} (h : KMap k enc w b K) : b < w.heap.size := by
 obtain ⟨_, D, _, ho, _⟩ := h
 exact ho.lt
theorem KMap.keep {α : Type} {k : TypeId} {enc : α → Value} {w w' : World} {b : Nat} {K : List α} (h : KMap k enc w b K) (hh : w'.heap[b]? = w.heap[b]?) : KMap k enc w' b K := by
 obtain ⟨n, D, hn, ho, hs⟩ := h
 obtain ⟨es, clock, hb, F, hs', hD⟩ := ho
 exact ⟨n, D, hn, ⟨es, clock, hh.trans hb, F, hs', hD⟩, hs⟩
theorem KMap.look {α : Type} {k t e : TypeId} {enc : α → Value} {w : World} {b : Nat} {K : List α} (h : KMap k enc w b K) (hk : Maps.Keyed Tryz.prog k) (ht : (Tryz.prog).underlying t = some (.map k e)) {z : Value} (hz : (zeroValue e).run Tryz.prog w = .ok z w) {x : α} (hx : x ∉ K) (hl : ∃ l, keyOf Tryz.prog k (enc x) = some l) :
 (Instr.lookup t (.map (some b)) (enc x) false).run Tryz.prog w = .ok z w := by
 obtain ⟨n, D, hn, ho, hs⟩ := h
 obtain ⟨l, hl⟩ := hl
 obtain ⟨v, ps, hrun, hv⟩ := ho.lookup hk ht hz (zd := .held z) (zp := []) rfl hl
 rw [Maps.atKey_of_not_has (hs x l hx hl)] at hv
 simp only [rawR, Option.some.injEq, Prod.mk.injEq] at hv
 have e : v = z := by simpa using hv.1
 rw [hrun, e]
theorem KMap.put {α : Type} {k t e : TypeId} {enc : α → Value} {w : World} {b : Nat} {K : List α} (h : KMap k enc w b K) (hk : Maps.Keyed Tryz.prog k) (ht : (Tryz.prog).underlying t = some (.map k e)) (hinj : ∀ x y, enc x = enc y → x = y) (hK : K.length ≤ 1000000) (x : α) (hl : ∃ l, keyOf Tryz.prog k (enc x) = some l) (v : Value) :
 ∃ w', (Instr.mapUpdate t (.map (some b)) (enc x) v).run Tryz.prog w = .ok () w' ∧ KMap k enc w' b (x :: K) ∧ w.grownBy w' (some b) := by
 obtain ⟨n, D, hn, ho, hs⟩ := h
 obtain ⟨l, hl⟩ := hl
 obtain ⟨w', hrun, ho', hg⟩ := ho.update hk ht (by unfold maxLen; omega) hl (val := v) (d := .held v) (ps := []) rfl
 refine ⟨w', hrun, ⟨_, _, ?_, ho', fun y ly hy hly => ?_⟩, hg⟩
 ·
  simp; omega
 ·
  have hne : ly ≠ l := fun e => hy (by
   have := hinj _ _ (hk.inj (e ▸ hly) hl)
   rw [this]; simp)
  rw [Maps.has_put_other hne]
  exact hs y ly (fun hm => hy (List.mem_cons_of_mem _ hm)) hly
theorem full_keyed : Maps.Keyed Tryz.prog 135 := Maps.Keyed.of_law (deep_law (m := 2) (by omega) (by kernel_rfl) (by kernel_rfl) (by kernel_rfl))
theorem size_pos : ∃ n, (Tryz.prog).types.size = n + 1 := ⟨(Tryz.prog).types.size - 1, by kernel_rfl⟩
theorem cells_full : (Tryz.prog).cellsOf 135 = 2 := by kernel_rfl
theorem cells_str : (Tryz.prog).cellsOf 9 = 1 := by kernel_rfl
theorem type_full : (Tryz.prog).keyType 135 = true := by kernel_rfl
theorem keyLits_struct {P : Program} {d : Nat} {t : TypeId} {fs : Array Field} {cs : List Value} (hu : P.underlying t = some (.struct fs)) : P.keyLits (d + 1) t cs = if cs.length = P.cellsOf t ∧ fs.all (·.name != "_") = true then (fs.toList.mapM fun f => P.keyLits d f.type ((cs.drop f.offset).take (P.cellsOf f.type))).map List.flatten else none := by
 simp only [Program.keyLits, hu]
theorem keyOf_full (a b : List UInt8) (ha : a.length ≤ 1000000) (hb : b.length ≤ 1000000) : ∃ l, keyOf Tryz.prog 135 (.agg #[strV a, strV b]) = some l := by
 have hu := Tryz.underlying135
 have hs := Tryz.underlying9
 obtain ⟨n, hn⟩ := size_pos
 have h1 : ∀ s : List UInt8, s.length ≤ 1000000 → (Tryz.prog).keyLits (n + 1) 9 [strV s] = some [.string s] := by
  intro s h
  simp only [Program.keyLits, hs]
  rw [if_pos]
  show s.length ≤ maxLen
  unfold maxLen; omega
 unfold keyOf
 rw [hu]
 simp only [type_full, Value.formed, hu, cells_full, Bool.true_and]
 rw [if_pos (by rfl), hn, keyLits_struct hu, if_pos ⟨by rw [cells_full]; rfl, by kernel_rfl⟩]
 have e1 : ((Value.agg #[strV a, strV b]).cells.toList.drop 0).take 1 = [strV a] := rfl
 have e2 : ((Value.agg #[strV a, strV b]).cells.toList.drop 1).take 1 = [strV b] := rfl
 simp only [List.mapM_cons, List.mapM_nil, cells_str, e1, e2, h1 a ha, h1 b hb]
 exact ⟨_, rfl⟩
theorem str_keyed : Maps.Keyed Tryz.prog 9 := Maps.string_keyed Tryz.underlying9
theorem keyOf_strV (a : List UInt8) (ha : a.length ≤ 1000000) : ∃ l, keyOf Tryz.prog 9 (strV a) = some l := by
 have hs := Tryz.underlying9
 refine ⟨.string a, ?_⟩
 unfold keyOf
 rw [hs]
 simp only [mapKey, hs]
 rw [if_pos]
 show a.length ≤ maxLen
 unfold maxLen; omega
def fullV (x : List UInt8 × List UInt8) : Value := .agg #[strV x.1, strV x.2]
theorem strV_inj {a b : List UInt8} (h : strV a = strV b) : a = b := by
 injection h with h
 injection h with h
 simpa using congrArg Array.toList h
theorem fullV_inj (x y : List UInt8 × List UInt8) (h : fullV x = fullV y) : x = y := by
 unfold fullV at h
 injection h with h
 have h := congrArg Array.toList h
 simp only [List.cons.injEq] at h
 exact Prod.ext (strV_inj h.1) (strV_inj h.2.1)
abbrev FMap := KMap 135 fullV
set_option maxHeartbeats 8000000 in
set_option maxRecDepth 100000 in
theorem nfunc_any (l : List GT) (nb fb : Nat) (Z : Nat → Prop) (hA : Amb l nb Z) (ids : Nat → Nat) (κ : Nat → Value) (av : Value) (next : Nat) (mv cv uv sv : Value) (mod : List UInt8) (f : GT) (K : List (List UInt8 × List UInt8)) (w : World) (hG : ∀ s ∈ l, NodeAt w ids κ Z s)
 (hN : NmAt w nb av next (.map (some fb)) mv cv uv sv) (hF : FMap w fb K) (hfl : f ∈ l) (hpl : ∀ s ∈ GT.subsL f.ks, PlainK s) (hsz : f.subs.length ≤ 1000) (hZf : ¬ Z fb) (hnew : (mod, f.nd.name) ∉ K) (hK : K.length ≤ 1000) (hm : mod.length ≤ 1000) (hn : f.nd.name.length ≤ 1000) :
 Calls Tryz.prog 62 #[.pointer (some ⟨nb, 0, none⟩), strV mod, ptrV f] w fun e w' => e = .returned (.int .i64 0) ∧ ∃ uv' sv', NmAt w' nb av next (.map (some fb)) mv cv uv' sv' ∧ FMap w' fb ((mod, f.nd.name) :: K) ∧ Fr (fun q => q = nb ∨ q = fb) w w' := by
 have hzp : ∀ W : World, (zeroValue 90).run Tryz.prog W = .ok (.pointer none) W := fun W => by kernel_rfl
 have hkey := keyOf_full mod f.nd.name (by omega) (by omega)
 have HF := Lib.hid hF
 have HNW := Lib.hid hnew
 have HN := Lib.hid hN
 have HG := Lib.hid hG
 have HA := Lib.hid hA
 have HPL := Lib.hid hpl
 have HFL := Lib.hid hfl
 obtain ⟨a, c, hh, hsl, hq⟩ := hG f hfl
 have c1 := cell_of_row w f.b 1 _ _ (0, 0) hh
 simp at c1
 obtain ⟨-, -, c2, -, -, -, -, f6⟩ := hN.cells
 have hnf : nb ≠ fb := by
  intro e
  obtain ⟨_, D, _, ho, _⟩ := hF
  obtain ⟨es, ck, hm⟩ := owns_map ho
  have h1 : w.heap[nb]? = _ := hN
  rw [e, hm] at h1; cases h1
 have hGf : ∀ s ∈ l, s.b ≠ fb := by
  intro s hs e
  obtain ⟨a, c, hh, _⟩ := hG s hs
  obtain ⟨_, D, _, ho, _⟩ := hF
  obtain ⟨es, ck, hm⟩ := owns_map ho
  rw [e, hm] at hh; cases hh
 have HGF := Lib.hid hGf
 have HZF := Lib.hid hZf
 have hmm := @run_makeMap Tryz.prog
 clear hF hG hA hfl hpl hnew hGf hZf hh hsl hq
 go_enter Tryz.func62, Tryz.ntmps62
 go_wp2
 have hbA : Below w.heap.size w (w.alloc (.cells #[strV mod, strV f.nd.name] 135)) := (Below.refl _ _).alloc (Nat.le_refl _) _
 have hkA := heap_alloc_new w (.cells #[strV mod, strV f.nd.name] 135)
 have hzA : (w.alloc (.cells #[strV mod, strV f.nd.name] 135)).heap.size = w.heap.size + 1 := by simp
 have HFR := Lib.hid ((Fr.refl (fun q => q = nb ∨ q = fb) w).alloc (.cells #[strV mod, strV f.nd.name] 135))
 generalize World.alloc w _ = WA at hbA hkA hzA HFR ⊢
 have c2 : WA.cell? ⟨nb, 2, none⟩ = some (.map (some fb)) := (hbA.cell HN.out.lt).trans c2
 have hFA := HF.out.keep (hbA.block fb HF.out.lt)
 have hlkA : (Instr.lookup 93 (.map (some fb)) (.agg #[strV mod, strV f.nd.name]) false).run Tryz.prog WA.drew = .ok (.pointer none) WA.drew := (hFA.keep (w' := WA.drew) rfl).look (z := .pointer none) full_keyed Tryz.underlying93 (hzp _) HNW.out hkey
 have k0 := cell_of_row WA w.heap.size 0 _ _ (0, 0) hkA
 have k1 := cell_of_row WA w.heap.size 1 _ _ (0, 0) hkA
 simp at k0 k1
 have hnA : NmAt WA nb av next (.map (some fb)) mv cv uv sv := (hbA.block nb HN.out.lt).trans HN.out
 have HNA := Lib.hid hnA
 clear hnA hbA hzA
 generalize w.heap.size = kb at hkA k0 k1 ⊢
 have hHeld : (fun w' => w'.cell? ⟨nb, 2, none⟩ = some (.map (some fb)) ∧ w'.cell? ⟨kb, 0, none⟩ = some (strV mod) ∧ w'.cell? ⟨kb, 1, none⟩ = some (strV f.nd.name) ∧ (Instr.lookup 93 (.map (some fb)) (.agg #[strV mod, strV f.nd.name]) false).run Tryz.prog w' = .ok (.pointer none) w') WA.drew := ⟨c2, k0, k1, hlkA⟩
 refine wp_region_two (fun w' => w'.cell? ⟨nb, 2, none⟩ = some (.map (some fb)) ∧ w'.cell? ⟨kb, 0, none⟩ = some (strV mod) ∧ w'.cell? ⟨kb, 1, none⟩ = some (strV f.nd.name) ∧ (Instr.lookup 93 (.map (some fb)) (.agg #[strV mod, strV f.nd.name]) false).run Tryz.prog w' = .ok (.pointer none) w') 6 (by kernel_rfl) ?_
 refine wpAnyT_take (i := 0) (v := ?_) rfl (by kernel_rfl) (fun _ _ _ h => h) (by assumption) (Or.inl ⟨by rfl, ?_⟩) ?_
 rotate_left
 ·
  (intro w' hSw; (try dsimp only at hSw); go_simp; try with_reducible rfl)
 try simp only [Act.put, List.setIfInBounds_toArray, List.set_cons_zero, List.set_cons_succ]
 refine wpAnyT_take (i := 1) (v := ?_) rfl (by kernel_rfl) (fun _ _ _ h => h) (by assumption) (Or.inl ⟨by rfl, ?_⟩) ?_
 rotate_left
 ·
  (intro w' hSw; (try dsimp only at hSw); go_simp; try with_reducible rfl)
 try simp only [Act.put, List.setIfInBounds_toArray, List.set_cons_zero, List.set_cons_succ]
 refine wpAnyT_take (i := 2) (v := ?_) rfl (by kernel_rfl) (fun _ _ _ h => h) (by assumption) (Or.inl ⟨by rfl, ?_⟩) ?_
 rotate_left
 ·
  (intro w' hSw; (try dsimp only at hSw); go_simp; try with_reducible rfl)
 try simp only [Act.put, List.setIfInBounds_toArray, List.set_cons_zero, List.set_cons_succ]
 refine wpAnyT_take (i := 3) (v := ?_) rfl (by kernel_rfl) (fun _ _ _ h => h) (by assumption) (Or.inl ⟨by rfl, ?_⟩) ?_
 rotate_left
 ·
  (intro w' hSw; (try dsimp only at hSw); go_simp; try with_reducible rfl)
 try simp only [Act.put, List.setIfInBounds_toArray, List.set_cons_zero, List.set_cons_succ]
 refine wpAnyT_take (i := 4) (v := ?_) rfl (by kernel_rfl) (fun _ _ _ h => h) (by assumption) (Or.inl ⟨by rfl, ?_⟩) ?_
 rotate_left
 ·
  (intro w' hSw; (try dsimp only at hSw); go_simp; try with_reducible rfl)
 try simp only [Act.put, List.setIfInBounds_toArray, List.set_cons_zero, List.set_cons_succ]
 refine wpAnyT_take (i := 5) (v := ?_) rfl (by kernel_rfl) (fun _ _ _ h => h) (by assumption) (Or.inl ⟨by rfl, ?_⟩) ?_
 rotate_left
 ·
  (intro w' hSw; (try dsimp only at hSw); go_simp; try with_reducible rfl)
 try simp only [Act.put, List.setIfInBounds_toArray, List.set_cons_zero, List.set_cons_succ]
 refine wpAnyT_tail (by kernel_rfl) ?_
 simp only [List.drop_succ_cons, List.drop_zero]
 clear hHeld hlkA
 have hHeld : (fun w' => w'.cell? ⟨nb, 2, none⟩ = some (.map (some fb)) ∧ w'.cell? ⟨kb, 0, none⟩ = some (strV mod) ∧ w'.cell? ⟨kb, 1, none⟩ = some (strV f.nd.name)) WA.drew.drew := ⟨c2, k0, k1⟩
 go_wp2
 refine wp_region_two (fun w' => w'.cell? ⟨nb, 2, none⟩ = some (.map (some fb)) ∧ w'.cell? ⟨kb, 0, none⟩ = some (strV mod) ∧ w'.cell? ⟨kb, 1, none⟩ = some (strV f.nd.name)) 6 (by kernel_rfl) ?_
 refine wpAnyT_take (i := 0) (v := ?_) rfl (by kernel_rfl) (fun _ _ _ h => h) (by assumption) (Or.inl ⟨by rfl, ?_⟩) ?_
 rotate_left
 ·
  (intro w' hSw; (try dsimp only at hSw); go_simp; try with_reducible rfl)
 try simp only [Act.put, List.setIfInBounds_toArray, List.set_cons_zero, List.set_cons_succ]
 refine wpAnyT_take (i := 1) (v := ?_) rfl (by kernel_rfl) (fun _ _ _ h => h) (by assumption) (Or.inl ⟨by rfl, ?_⟩) ?_
 rotate_left
 ·
  (intro w' hSw; (try dsimp only at hSw); go_simp; try with_reducible rfl)
 try simp only [Act.put, List.setIfInBounds_toArray, List.set_cons_zero, List.set_cons_succ]
 refine wpAnyT_take (i := 2) (v := ?_) rfl (by kernel_rfl) (fun _ _ _ h => h) (by assumption) (Or.inl ⟨by rfl, ?_⟩) ?_
 rotate_left
 ·
  (intro w' hSw; (try dsimp only at hSw); go_simp; try with_reducible rfl)
 try simp only [Act.put, List.setIfInBounds_toArray, List.set_cons_zero, List.set_cons_succ]
 refine wpAnyT_take (i := 3) (v := ?_) rfl (by kernel_rfl) (fun _ _ _ h => h) (by assumption) (Or.inl ⟨by rfl, ?_⟩) ?_
 rotate_left
 ·
  (intro w' hSw; (try dsimp only at hSw); go_simp; try with_reducible rfl)
 try simp only [Act.put, List.setIfInBounds_toArray, List.set_cons_zero, List.set_cons_succ]
 refine wpAnyT_take (i := 4) (v := ?_) rfl (by kernel_rfl) (fun _ _ _ h => h) (by assumption) (Or.inl ⟨by rfl, ?_⟩) ?_
 rotate_left
 ·
  (intro w' hSw; (try dsimp only at hSw); go_simp; try with_reducible rfl)
 try simp only [Act.put, List.setIfInBounds_toArray, List.set_cons_zero, List.set_cons_succ]
 refine wpAnyT_take (i := 5) (v := ?_) rfl (by kernel_rfl) (fun _ _ _ h => h) (by assumption) (Or.inl ⟨by rfl, ?_⟩) ?_
 rotate_left
 ·
  (intro w' hSw; (try dsimp only at hSw); go_simp; try with_reducible rfl)
 try simp only [Act.put, List.setIfInBounds_toArray, List.set_cons_zero, List.set_cons_succ]
 refine wpAnyT_tail (by kernel_rfl) ?_
 simp only [List.drop_succ_cons, List.drop_zero]
 obtain ⟨W2, hrun2, hF2, hg2⟩ := (hFA.keep (w' := WA.drew.drew) rfl).put full_keyed Tryz.underlying93 fullV_inj (by omega) (mod, f.nd.name) hkey (ptrV f)
 have hrun2 : (Instr.mapUpdate 93 (.map (some fb)) (.agg #[strV mod, strV f.nd.name]) (ptrV f)).run Tryz.prog WA.drew.drew = .ok () W2 := hrun2
 have HF2 := Lib.hid hF2
 have hN2 : NmAt W2 nb av next (.map (some fb)) mv cv uv sv := (hg2.block nb HNA.out.lt (fun e => by injection e with e; exact hnf e)).trans HNA.out
 have HFR2 := Lib.hid ((HFR.out.drew.drew).step hg2 (fun q e => .inl (.inr (by injection e with e; exact e.symm))))
 have HN2 := Lib.hid hN2
 obtain ⟨-, -, -, -, -, c5, c6, f6⟩ := hN2.cells
 have hnb2 : nb < W2.heap.size := hN2.lt
 have hnx : ¬ nb = W2.heap.size + 1 + 1 := by omega
 have hnb3 : nb < W2.heap.size + 1 := by omega
 have hnb4 : nb < W2.heap.size + 1 + 1 := by omega
 have HG2 := Lib.hid (show ∀ s ∈ l, NodeAt W2 ids κ Z s from fun s hs => (HG.out s hs).fr HFR2.out (fun e => by
  rcases e with e | e
  ·
   exact HA.out.ne s hs e
  ·
   exact HGF.out s hs e) (fun q hz e => by
  rcases e with e | e
  ·
   exact HA.out.nbz (e ▸ hz)
  ·
   exact HZF.out (e ▸ hz)))
 have HV := Lib.hid (show VisRes W2 nb av next (.map (some fb)) mv cv (.map (some W2.heap.size)) 1 (((((W2.setCell ⟨nb, 5, none⟩ (.map (some W2.heap.size))).setCell ⟨nb, 6, none⟩ (.slice (some ⟨W2.heap.size + 1 + 1, 0, none⟩) 1 1)).alloc (.map #[] 0)).alloc (.map #[] 0)).alloc (.cells #[.map (some (W2.heap.size + 1))] 165)) from by
  have hg1 := grown_set (grown_set (grown_refl W2 (some nb)) 5 (.map (some W2.heap.size))) 6 (.slice (some ⟨W2.heap.size + 1 + 1, 0, none⟩) 1 1)
  have hn1 : NmAt ((W2.setCell ⟨nb, 5, none⟩ (.map (some W2.heap.size))).setCell ⟨nb, 6, none⟩ (.slice (some ⟨W2.heap.size + 1 + 1, 0, none⟩) 1 1)) nb av next (.map (some fb)) mv cv (.map (some W2.heap.size)) (.slice (some ⟨W2.heap.size + 1 + 1, 0, none⟩) 1 1) := (HN2.out.setU _).setS _
  have hz1 : ((W2.setCell ⟨nb, 5, none⟩ (.map (some W2.heap.size))).setCell ⟨nb, 6, none⟩ (.slice (some ⟨W2.heap.size + 1 + 1, 0, none⟩) 1 1)).heap.size = W2.heap.size := by simp
  generalize World.setCell (World.setCell W2 _ _) _ _ = WS at hg1 hn1 hz1 ⊢
  have hb3 : Below WS.heap.size WS (((WS.alloc (.map #[] 0)).alloc (.map #[] 0)).alloc (.cells #[.map (some (W2.heap.size + 1))] 165)) := (((Below.refl _ _).alloc (Nat.le_refl _) _).alloc (by simp) _).alloc (by simp; omega) _
  have hnew : (((WS.alloc (.map #[] 0)).alloc (.map #[] 0)).alloc (.cells #[.map (some (W2.heap.size + 1))] 165)).heap[W2.heap.size + 1 + 1]? = some (.cells #[.map (some (W2.heap.size + 1))] 165 (0, 0)) := by
   have := heap_alloc_new ((WS.alloc (.map #[] 0)).alloc (.map #[] 0)) (.cells #[.map (some (W2.heap.size + 1))] 165)
   simpa [hz1] using this
  exact ⟨_, _, (hb3.block nb hn1.lt).trans hn1, grown_below hg1 hb3, ⟨rfl, .inr ⟨W2.heap.size + 1 + 1, 1, #[.map (some (W2.heap.size + 1))], rfl, by omega, hnew, Nat.le_refl _, by unfold maxLen; omega, rfl, rfl⟩⟩⟩)
 obtain ⟨a, c, hh, hsl, hq⟩ := HG2.out f HFL.out
 have c8 := cell_of_row W2 f.b 8 _ _ (0, 0) hh
 simp at c8
 have hfb2 : f.b < W2.heap.size := (Array.getElem?_eq_some_iff.1 hh).1
 have hfb3 : f.b < W2.heap.size + 1 := by omega
 have hfb4 : f.b < W2.heap.size + 1 + 1 := by omega
 have hne : ¬ nb = f.b := fun e => HA.out.ne f HFL.out e.symm
 clear hF2 hN2 hg2 hHeld hFA k0 k1 hkA
 have hpk : ∀ t ∈ f.ks, t ∈ l ∧ t.subs.length ≤ 1000 ∧ (∀ s ∈ t.subs, PlainK s) := fun t ht =>
  ⟨HA.out.kids f HFL.out t ht, by have := GT.len_lt ht; omega, fun s hs => HPL.out s (GT.mem_subsL ht s hs)⟩
 have HPK := Lib.hid hpk
 have HS := Lib.hid (show ∀ W, W2.grownBy W (some nb) → Sl W W2.heap.size (.slice a f.ks.length c) f.ks.length (f.ks.map ptrV) from fun W hg => hsl.grown (Nat.le_refl _) hg (fun g e e' => by injection e with e; exact HA.out.nbz (e ▸ hq g e')))
 have HC := Lib.hid (show ∀ t ∈ f.ks, ∀ W, W2.grownBy W (some nb) → ∃ u, W.heap[t.b]? = some (.cells (gtCells t.nd (κ t.b) u (ids t.b)) 130 (0, 0)) from fun t ht W hg => by
  have htl := HA.out.kids f HFL.out t ht
  obtain ⟨a', c', hh', _⟩ := HG2.out t htl
  exact ⟨_, (hg.block t.b (Array.getElem?_eq_some_iff.1 hh').1 (fun e => by injection e with e; exact HA.out.ne t htl e)).trans hh'⟩)
 have hkl : f.ks.length ≤ 1000 := by
  have h1 := GT.len_le f.ks
  have h2 : f.subs.length = (GT.blocksL f.ks).length + 1 := by rw [GT.subs_eq, GT.blocksL_len]; rfl
  omega
 have HVA := Lib.hid (visit_any l nb Z HA.out W2 ids κ HG2.out hnb2 av next (.map (some fb)) mv cv (.map (some W2.heap.size)))
 clear hpk hh hsl hq
 go_wp2
 go_loopw [45] (fun p wr => ∃ j : Nat, p = .int .i64 (j : Int) ∧ j ≤ f.ks.length ∧ VisRes W2 nb av next (.map (some fb)) mv cv (.map (some W2.heap.size)) 1 wr) (fun p wr => f.ks.length - (intOf p).toNat)
 case atStart => exact ⟨0, rfl, Nat.zero_le _, HV.out⟩
 case round =>
  obtain ⟨j, rfl, hj, hV⟩ := hrel
  have HVR := Lib.hid hV
  obtain ⟨sv5, xs5, hM5, hg5, hown5⟩ := hV
  by_cases hlt : j < f.ks.length
  ·
   have hsj := HS.out wr hg5
   obtain ⟨b, o, rfl, _, kc⟩ := hsj.mapAt hlt
   have hkm : f.ks[j] ∈ f.ks := List.getElem_mem hlt
   obtain ⟨p1, p2, p3⟩ := HPK.out _ hkm
   have TI := Lib.hid (HVA.out 1000 f.ks[j] p1 p2 p3 1 wr HVR.out (by omega))
   obtain ⟨u, hh5⟩ := HC.out _ hkm wr hg5
   have c0 := cell_of_row wr f.ks[j].b 0 _ _ (0, 0) hh5
   simp at c0
   have q4 : ((f.ks[j].nd.kind : Int) == 4) = false := by
    have := p3 _ (GT.self_mem _)
    unfold PlainK at this
    simp; omega
   clear hsj hkm p1 p2 p3 hh5 hM5 hg5 hown5
   go_wp2_with fail
   refine TI.out.mono ?_
   rintro e w5 ⟨rfl, hV5⟩
   have HV5 := Lib.hid hV5
   clear hV5
   go_wp2
   go_roundw
   case rel => exact ⟨j + 1, by go_num, by omega, HV5.out⟩
   case measure => simp [intOf]; omega
  ·
   clear hM5 hg5 hown5
   go_wp2
   go_ret
   obtain ⟨sv6, xs6, hM6, hg6, _⟩ := HVR.out
   refine ⟨rfl, _, _, hM6, HF2.out.keep (hg6.block fb HF2.out.lt (fun e => by injection e with e; exact hnf e.symm)), HFR2.out.step hg6 (fun q e => .inl (.inl (by injection e with e; exact e.symm)))⟩
end Go.Proofs.YtihmbbkppkgcmaaGreatDoor
namespace Go.Proofs.YtihmbbkppkgcmaaGreatDoor
open Go.RowKit
abbrev SMap := KMap 9 strV
def Dist (l : List GT) : Prop := ∀ (i j : Nat) (a b : GT), l[i]? = some a → l[j]? = some b → a.nd.name = b.nd.name → i = j
theorem Dist.new {l : List GT} (h : Dist l) {i : Nat} {a : GT} (ha : l[i]? = some a) {x : GT} (hx : x ∈ l.take i) : x.nd.name ≠ a.nd.name := by
 intro e
 obtain ⟨k, hk, he⟩ := List.mem_iff_getElem.1 hx
 rw [List.length_take] at hk
 have h1 : l[k]? = some x := by rw [List.getElem?_eq_getElem (by omega)]; rw [List.getElem_take] at he; rw [he]
 have := h k i x a h1 ha e
 omega
structure NamesOk (l : List GT) (t : GT) : Prop where
 sz : t.subs.length ≤ 1000
 dist : Dist t.ks
 dist2 : ∀ m ∈ t.ks, Dist m.ks
 short : ∀ s ∈ t.subs, s.nd.name.length ≤ 1000
 plain : ∀ m ∈ t.ks, ∀ f ∈ m.ks, ∀ s ∈ GT.subsL f.ks, PlainK s
theorem kmap_not_node {α : Type} {k : TypeId} {enc : α → Value} {w : World} {b : Nat} {K : List α} (hF : KMap k enc w b K) {ids : Nat → Nat} {κ : Nat → Value} {Z : Nat → Prop} {s : GT} (h : NodeAt w ids κ Z s) : s.b ≠ b := by
 intro e
 obtain ⟨a, c, hh, _⟩ := h
 obtain ⟨_, D, _, ho, _⟩ := hF
 obtain ⟨es, ck, hm⟩ := owns_map ho
 rw [e, hm] at hh; cases hh
theorem kmap_not_nm {α : Type} {k : TypeId} {enc : α → Value} {w : World} {b : Nat} {K : List α} (hF : KMap k enc w b K) {nb next : Nat} {av fv mv cv uv sv : Value} (h : NmAt w nb av next fv mv cv uv sv) : nb ≠ b := by
 intro e
 obtain ⟨_, D, _, ho, _⟩ := hF
 obtain ⟨es, ck, hm⟩ := owns_map ho
 have h1 : w.heap[nb]? = _ := h
 rw [e, hm] at h1; cases h1
structure AllSt (l : List GT) (t : GT) (nb fb mb : Nat) (av : Value) (next : Nat) (w : World) (i j : Nat) (wr : World) : Prop where
 nm : ∃ uv sv, NmAt wr nb av next (.map (some fb)) (.map (some mb)) (.slice none 0 0) uv sv
 fm : ∃ K, FMap wr fb K ∧ K.length ≤ (GT.blocksL (t.ks.take i)).length + j ∧ ∀ x ∈ K, (∃ m ∈ t.ks.take i, x.1 = m.nd.name) ∨ ∃ m, t.ks[i]? = some m ∧ x.1 = m.nd.name ∧ ∃ f ∈ m.ks.take j, x.2 = f.nd.name
 fr : Fr (fun q => q = nb ∨ q = fb ∨ q = mb) w wr
def AllMd (t : GT) (mb i : Nat) (wr : World) : Prop := ∃ K, SMap wr mb K ∧ K.length ≤ i ∧ ∀ x ∈ K, ∃ m ∈ t.ks.take i, x = m.nd.name
set_option maxHeartbeats 8000000 in
set_option maxRecDepth 100000 in
theorem all_any (l : List GT) (nb fb mb : Nat) (Z : Nat → Prop) (hA : Amb l nb Z) (ids : Nat → Nat) (κ : Nat → Value) (av : Value) (next : Nat) (uv sv : Value) (t : GT) (w : World) (hG : ∀ s ∈ l, NodeAt w ids κ Z s)
 (hN : NmAt w nb av next (.map (some fb)) (.map (some mb)) (.slice none 0 0) uv sv) (hF : FMap w fb []) (hM : SMap w mb []) (hfm : fb ≠ mb) (htl : t ∈ l) (hZf : ¬ Z fb) (hZm : ¬ Z mb) (hOk : NamesOk l t) :
 Calls Tryz.prog 39 #[.pointer (some ⟨nb, 0, none⟩), ptrV t] w fun e w' => e = .returned (.int .i64 0) ∧ ∃ uv' sv', NmAt w' nb av next (.map (some fb)) (.map (some mb)) (.slice none 0 0) uv' sv' ∧ Fr (fun q => q = nb ∨ q = fb ∨ q = mb) w w' := by
 have hzb : ∀ W : World, (zeroValue 4).run Tryz.prog W = .ok (.bool false) W := fun W => by kernel_rfl
 have hnf := kmap_not_nm hF hN
 have hnm := kmap_not_nm hM hN
 have HG := Lib.hid hG
 have HA := Lib.hid hA
 have HO := Lib.hid hOk
 have HT := Lib.hid htl
 have HGf := Lib.hid (show ∀ W, Fr (fun q => q = nb ∨ q = fb ∨ q = mb) w W → ∀ s ∈ l, NodeAt W ids κ Z s from fun W hf s hs => (hG s hs).fr hf (fun e => by
  rcases e with e | e | e
  ·
   exact hA.ne s hs e
  ·
   exact kmap_not_node hF (hG s hs) e
  ·
   exact kmap_not_node hM (hG s hs) e) (fun q hz e => by
  rcases e with e | e | e
  ·
   exact hA.nbz (e ▸ hz)
  ·
   exact hZf (e ▸ hz)
  ·
   exact hZm (e ▸ hz)))
 have HZF := Lib.hid hZf
 have HZM := Lib.hid hZm
 obtain ⟨a, c, hh, hsl, hq⟩ := hG t htl
 have c8 := cell_of_row w t.b 8 _ _ (0, 0) hh
 simp at c8
 have HS := Lib.hid (show ∀ W, Fr (fun q => q = nb ∨ q = fb ∨ q = mb) w W → Sl W w.heap.size (.slice a t.ks.length c) t.ks.length (t.ks.map ptrV) from fun W hf => hsl.fr (Nat.le_refl _) hf (fun q e e' => by
  have hz := hq q e
  rcases e' with e | e | e
  ·
   exact hA.nbz (e ▸ hz)
  ·
   exact hZf (e ▸ hz)
  ·
   exact hZm (e ▸ hz)))
 have HST := Lib.hid (show AllSt l t nb fb mb av next w 0 0 w from ⟨⟨_, _, hN⟩, ⟨[], hF, Nat.zero_le _, fun x h => by simp at h⟩, Fr.refl _ _⟩)
 have HMD := Lib.hid (show AllMd t mb 0 w from ⟨[], hM, Nat.le_refl _, fun x h => by simp at h⟩)
 have hsub : t.subs.length = (GT.blocksL t.ks).length + 1 := by rw [GT.subs_eq, GT.blocksL_len]; rfl
 have hkl : t.ks.length ≤ 1000 := by
  have h1 := GT.len_le t.ks
  have h3 := hOk.sz
  omega
 have htk : (GT.blocksL t.ks).length ≤ 1000 := by have h3 := hOk.sz; omega
 clear hG hA hOk htl hF hM hN hZf hZm hh hsl hq hsub
 go_enter Tryz.func39, Tryz.ntmps39
 go_wp2
 go_loopw [18] (fun p wr => ∃ i : Nat, p = .int .i64 (i : Int) ∧ i ≤ t.ks.length ∧ AllSt l t nb fb mb av next w i 0 wr ∧ AllMd t mb i wr) (fun p wr => t.ks.length - (intOf p).toNat)
 case atStart => exact ⟨0, rfl, Nat.zero_le _, HST.out, HMD.out⟩
 case round =>
  obtain ⟨i, rfl, hi, hS, hM⟩ := hrel
  clear HST HMD
  by_cases hlt : i < t.ks.length
  ·
   obtain ⟨m, hm⟩ : ∃ m, t.ks[i]? = some m := ⟨_, List.getElem?_eq_getElem hlt⟩
   have hme : t.ks[i] = m := by have := List.getElem?_eq_getElem hlt; rw [hm] at this; injection this with this; exact this.symm
   have hmk : m ∈ t.ks := by rw [← hme]; exact List.getElem_mem hlt
   obtain ⟨b, o, rfl, _, kc⟩ := (HS.out wr hS.fr).mapAt hlt
   rw [hme] at kc
   have hml : m ∈ l := HA.out.kids t HT.out m hmk
   obtain ⟨am, cm, hhm, hslm, hqm⟩ := HGf.out wr hS.fr m hml
   obtain ⟨uv1, sv1, hN1⟩ := hS.nm
   obtain ⟨KM, hM1, hKM, hKM2⟩ := hM
   have hnotin : m.nd.name ∉ KM := fun h => by
    obtain ⟨x, hx, e⟩ := hKM2 _ h
    exact HO.out.dist.new hm hx e.symm
   have hkey := keyOf_strV m.nd.name (by
    have := HO.out.short m (by rw [GT.subs_eq]; exact List.mem_cons_of_mem _ (GT.mem_subsL hmk m (GT.self_mem m)))
    omega)
   have c1 := cell_of_row wr m.b 1 _ _ (0, 0) hhm
   have c8 := cell_of_row wr m.b 8 _ _ (0, 0) hhm
   simp at c1 c8
   obtain ⟨-, -, -, c3, -, -, -, f6⟩ := hN1.cells
   have hlk := (hM1.keep (w' := wr.drew) rfl).look (z := .bool false) str_keyed Tryz.underlying94 (hzb _) hnotin hkey
   have hHeld : (fun w' => w'.cell? ⟨nb, 3, none⟩ = some (.map (some mb)) ∧ w'.cell? ⟨m.b, 1, none⟩ = some (strV m.nd.name) ∧ (Instr.lookup 94 (.map (some mb)) (strV m.nd.name) false).run Tryz.prog w' = .ok (.bool false) w') wr.drew := ⟨c3, c1, hlk⟩
   go_wp2
   refine wp_region_two (fun w' => w'.cell? ⟨nb, 3, none⟩ = some (.map (some mb)) ∧ w'.cell? ⟨m.b, 1, none⟩ = some (strV m.nd.name) ∧ (Instr.lookup 94 (.map (some mb)) (strV m.nd.name) false).run Tryz.prog w' = .ok (.bool false) w') 9 (by kernel_rfl) ?_
   refine wpAnyT_take (i := 0) (v := ?_) rfl (by kernel_rfl) (fun _ _ _ h => h) (by assumption) (Or.inl ⟨by rfl, ?_⟩) ?_
   rotate_left
   ·
    (intro w' hSw; (try dsimp only at hSw); go_simp; try with_reducible rfl)
   try simp only [Act.put, List.setIfInBounds_toArray, List.set_cons_zero, List.set_cons_succ]
   refine wpAnyT_take (i := 1) (v := ?_) rfl (by kernel_rfl) (fun _ _ _ h => h) (by assumption) (Or.inl ⟨by rfl, ?_⟩) ?_
   rotate_left
   ·
    (intro w' hSw; (try dsimp only at hSw); go_simp; try with_reducible rfl)
   try simp only [Act.put, List.setIfInBounds_toArray, List.set_cons_zero, List.set_cons_succ]
   refine wpAnyT_take (i := 2) (v := ?_) rfl (by kernel_rfl) (fun _ _ _ h => h) (by assumption) (Or.inl ⟨by rfl, ?_⟩) ?_
   rotate_left
   ·
    (intro w' hSw; (try dsimp only at hSw); go_simp; try with_reducible rfl)
   try simp only [Act.put, List.setIfInBounds_toArray, List.set_cons_zero, List.set_cons_succ]
   refine wpAnyT_take (i := 3) (v := ?_) rfl (by kernel_rfl) (fun _ _ _ h => h) (by assumption) (Or.inl ⟨by rfl, ?_⟩) ?_
   rotate_left
   ·
    (intro w' hSw; (try dsimp only at hSw); go_simp; try with_reducible rfl)
   try simp only [Act.put, List.setIfInBounds_toArray, List.set_cons_zero, List.set_cons_succ]
   refine wpAnyT_take (i := 4) (v := ?_) rfl (by kernel_rfl) (fun _ _ _ h => h) (by assumption) (Or.inl ⟨by rfl, ?_⟩) ?_
   rotate_left
   ·
    (intro w' hSw; (try dsimp only at hSw); go_simp; try with_reducible rfl)
   try simp only [Act.put, List.setIfInBounds_toArray, List.set_cons_zero, List.set_cons_succ]
   refine wpAnyT_take (i := 5) (v := ?_) rfl (by kernel_rfl) (fun _ _ _ h => h) (by assumption) (Or.inl ⟨by rfl, ?_⟩) ?_
   rotate_left
   ·
    (intro w' hSw; (try dsimp only at hSw); go_simp; try with_reducible rfl)
   try simp only [Act.put, List.setIfInBounds_toArray, List.set_cons_zero, List.set_cons_succ]
   refine wpAnyT_take (i := 6) (v := ?_) rfl (by kernel_rfl) (fun _ _ _ h => h) (by assumption) (Or.inl ⟨by rfl, ?_⟩) ?_
   rotate_left
   ·
    (intro w' hSw; (try dsimp only at hSw); go_simp; try with_reducible rfl)
   try simp only [Act.put, List.setIfInBounds_toArray, List.set_cons_zero, List.set_cons_succ]
   refine wpAnyT_take (i := 7) (v := ?_) rfl (by kernel_rfl) (fun _ _ _ h => h) (by assumption) (Or.inl ⟨by rfl, ?_⟩) ?_
   rotate_left
   ·
    (intro w' hSw; (try dsimp only at hSw); go_simp; try with_reducible rfl)
   try simp only [Act.put, List.setIfInBounds_toArray, List.set_cons_zero, List.set_cons_succ]
   refine wpAnyT_take (i := 8) (v := ?_) rfl (by kernel_rfl) (fun _ _ _ h => h) (by assumption) (Or.inl ⟨by rfl, ?_⟩) ?_
   rotate_left
   ·
    (intro w' hSw; (try dsimp only at hSw); go_simp; try with_reducible rfl)
   try simp only [Act.put, List.setIfInBounds_toArray, List.set_cons_zero, List.set_cons_succ]
   refine wpAnyT_tail (by kernel_rfl) ?_
   simp only [List.drop_succ_cons, List.drop_zero]
   go_wp2
   clear hHeld hlk
   have hHeld : (fun w' => w'.cell? ⟨nb, 3, none⟩ = some (.map (some mb)) ∧ w'.cell? ⟨m.b, 1, none⟩ = some (strV m.nd.name)) wr.drew.drew := ⟨c3, c1⟩
   refine wp_region_two (fun w' => w'.cell? ⟨nb, 3, none⟩ = some (.map (some mb)) ∧ w'.cell? ⟨m.b, 1, none⟩ = some (strV m.nd.name)) 9 (by kernel_rfl) ?_
   refine wpAnyT_take (i := 0) (v := ?_) rfl (by kernel_rfl) (fun _ _ _ h => h) (by assumption) (Or.inl ⟨by rfl, ?_⟩) ?_
   rotate_left
   ·
    (intro w' hSw; (try dsimp only at hSw); go_simp; try with_reducible rfl)
   try simp only [Act.put, List.setIfInBounds_toArray, List.set_cons_zero, List.set_cons_succ]
   refine wpAnyT_take (i := 1) (v := ?_) rfl (by kernel_rfl) (fun _ _ _ h => h) (by assumption) (Or.inl ⟨by rfl, ?_⟩) ?_
   rotate_left
   ·
    (intro w' hSw; (try dsimp only at hSw); go_simp; try with_reducible rfl)
   try simp only [Act.put, List.setIfInBounds_toArray, List.set_cons_zero, List.set_cons_succ]
   refine wpAnyT_take (i := 2) (v := ?_) rfl (by kernel_rfl) (fun _ _ _ h => h) (by assumption) (Or.inl ⟨by rfl, ?_⟩) ?_
   rotate_left
   ·
    (intro w' hSw; (try dsimp only at hSw); go_simp; try with_reducible rfl)
   try simp only [Act.put, List.setIfInBounds_toArray, List.set_cons_zero, List.set_cons_succ]
   refine wpAnyT_take (i := 3) (v := ?_) rfl (by kernel_rfl) (fun _ _ _ h => h) (by assumption) (Or.inl ⟨by rfl, ?_⟩) ?_
   rotate_left
   ·
    (intro w' hSw; (try dsimp only at hSw); go_simp; try with_reducible rfl)
   try simp only [Act.put, List.setIfInBounds_toArray, List.set_cons_zero, List.set_cons_succ]
   refine wpAnyT_take (i := 4) (v := ?_) rfl (by kernel_rfl) (fun _ _ _ h => h) (by assumption) (Or.inl ⟨by rfl, ?_⟩) ?_
   rotate_left
   ·
    (intro w' hSw; (try dsimp only at hSw); go_simp; try with_reducible rfl)
   try simp only [Act.put, List.setIfInBounds_toArray, List.set_cons_zero, List.set_cons_succ]
   refine wpAnyT_take (i := 5) (v := ?_) rfl (by kernel_rfl) (fun _ _ _ h => h) (by assumption) (Or.inl ⟨by rfl, ?_⟩) ?_
   rotate_left
   ·
    (intro w' hSw; (try dsimp only at hSw); go_simp; try with_reducible rfl)
   try simp only [Act.put, List.setIfInBounds_toArray, List.set_cons_zero, List.set_cons_succ]
   refine wpAnyT_take (i := 6) (v := ?_) rfl (by kernel_rfl) (fun _ _ _ h => h) (by assumption) (Or.inl ⟨by rfl, ?_⟩) ?_
   rotate_left
   ·
    (intro w' hSw; (try dsimp only at hSw); go_simp; try with_reducible rfl)
   try simp only [Act.put, List.setIfInBounds_toArray, List.set_cons_zero, List.set_cons_succ]
   refine wpAnyT_take (i := 7) (v := ?_) rfl (by kernel_rfl) (fun _ _ _ h => h) (by assumption) (Or.inl ⟨by rfl, ?_⟩) ?_
   rotate_left
   ·
    (intro w' hSw; (try dsimp only at hSw); go_simp; try with_reducible rfl)
   try simp only [Act.put, List.setIfInBounds_toArray, List.set_cons_zero, List.set_cons_succ]
   refine wpAnyT_take (i := 8) (v := ?_) rfl (by kernel_rfl) (fun _ _ _ h => h) (by assumption) (Or.inl ⟨by rfl, ?_⟩) ?_
   rotate_left
   ·
    (intro w' hSw; (try dsimp only at hSw); go_simp; try with_reducible rfl)
   try simp only [Act.put, List.setIfInBounds_toArray, List.set_cons_zero, List.set_cons_succ]
   refine wpAnyT_tail (by kernel_rfl) ?_
   simp only [List.drop_succ_cons, List.drop_zero]
   obtain ⟨W2, hrun2, hM2, hg2⟩ := (hM1.keep (w' := wr.drew.drew) rfl).put str_keyed Tryz.underlying94 (fun x y h => strV_inj h) (by omega) m.nd.name hkey (.bool true)
   have hne2 : ∀ q, q ≠ mb → (some q : Option Nat) ≠ some mb := fun q h e => by injection e with e; exact h e
   have HST := Lib.hid (show AllSt l t nb fb mb av next w i 0 W2 from ⟨⟨_, _, (hg2.block nb (show nb < wr.heap.size from hN1.lt) (hne2 _ hnm)).trans hN1⟩, by
    obtain ⟨K, hK, hK2, hK3⟩ := hS.fm
    exact ⟨K, hK.keep (hg2.block fb (show fb < wr.heap.size from hK.lt) (hne2 _ hfm)), hK2, hK3⟩, hS.fr.drew.drew.step hg2 (fun q e => .inl (.inr (.inr (by injection e with e; exact e.symm))))⟩)
   have HMD := Lib.hid (show AllMd t mb (i + 1) W2 from ⟨_, hM2, by simp; omega, fun x hx => by
    rw [take_one hm]
    rcases List.mem_cons.1 hx with hx | hx
    ·
     exact ⟨m, by simp, hx⟩
    ·
     obtain ⟨y, hy, e⟩ := hKM2 x hx
     exact ⟨y, by simp [hy], e⟩⟩)
   obtain ⟨am2, cm2, hhm2, hslm2, hqm2⟩ := HGf.out W2 HST.out.fr m hml
   have hHm : Hg.Node = Hg.Node := rfl
   clear hHm
   have c8 := cell_of_row W2 m.b 8 _ _ (0, 0) hhm2
   simp at c8
   have HSM := Lib.hid (show ∀ W, Fr (fun q => q = nb ∨ q = fb ∨ q = mb) W2 W → Sl W W2.heap.size (.slice am2 m.ks.length cm2) m.ks.length (m.ks.map ptrV) from fun W hf => hslm2.fr (Nat.le_refl _) hf (fun q e e' => by
    have hz := hqm2 q e
    rcases e' with e | e | e
    ·
     exact HA.out.nbz (e ▸ hz)
    ·
     exact HZF.out (e ▸ hz)
    ·
     exact HZM.out (e ▸ hz)))
   have HM := Lib.hid hm
   have HMK := Lib.hid hmk
   have htake : GT.blocksL (t.ks.take (i + 1)) = GT.blocksL (t.ks.take i) ++ m.blocks := by rw [GT.blocksL_take hlt, hme]
   have htl2 : (GT.blocksL (t.ks.take i)).length + m.subs.length ≤ 1000 := by
    have h1 := GT.subsL_take_le t.ks (i + 1)
    rw [htake, List.length_append, GT.blocks_len] at h1
    omega
   have hsubm : m.subs.length = (GT.blocksL m.ks).length + 1 := by rw [GT.subs_eq, GT.blocksL_len]; rfl
   have hmkl := GT.len_le m.ks
   have HTK := Lib.hid htake
   have HTL := Lib.hid (And.intro htl2 (And.intro hsubm hmkl))
   have hmk1 : m.ks.length ≤ 1000 := by omega
   clear hHeld hS hM1 hKM2 hnotin hkey hN1 hhm hslm hqm c1 c3 f6 hM2 hg2 hhm2 hslm2 hqm2 hm hmk hme htake htl2 hsubm hmkl
   go_wp2
   clear c8
   go_loopw [46] (fun p wr => ∃ j : Nat, p = .int .i64 (j : Int) ∧ j ≤ m.ks.length ∧ AllSt l t nb fb mb av next w i j wr ∧ AllMd t mb (i + 1) wr ∧ Fr (fun q => q = nb ∨ q = fb ∨ q = mb) W2 wr) (fun p wr => m.ks.length - (intOf p).toNat)
   case atStart => exact ⟨0, rfl, Nat.zero_le _, HST.out, HMD.out, Fr.refl _ _⟩
   case round =>
    obtain ⟨j, rfl, hj, hS, hM, hf2⟩ := hrel
    clear HST HMD
    by_cases hltj : j < m.ks.length
    ·
     obtain ⟨f, hf⟩ : ∃ f, m.ks[j]? = some f := ⟨_, List.getElem?_eq_getElem hltj⟩
     have hfe : m.ks[j] = f := by have := List.getElem?_eq_getElem hltj; rw [hf] at this; injection this with this; exact this.symm
     have hfk : f ∈ m.ks := by rw [← hfe]; exact List.getElem_mem hltj
     obtain ⟨b2, o2, rfl, _, kc2⟩ := (HSM.out wr hf2).mapAt hltj
     rw [hfe] at kc2
     have hfl : f ∈ l := HA.out.kids m hml f hfk
     obtain ⟨uv3, sv3, hN3⟩ := hS.nm
     obtain ⟨K, hK, hK2, hK3⟩ := hS.fm
     have hmt : m ∈ t.subs := by rw [GT.subs_eq]; exact List.mem_cons_of_mem _ (GT.mem_subsL HMK.out m (GT.self_mem m))
     have hft : f ∈ t.subs := by
      rw [GT.subs_eq]
      exact List.mem_cons_of_mem _ (GT.mem_subsL HMK.out f (by rw [GT.subs_eq]; exact List.mem_cons_of_mem _ (GT.mem_subsL hfk f (GT.self_mem f))))
     have hnew : (m.nd.name, f.nd.name) ∉ K := fun h => by
      rcases hK3 _ h with ⟨x, hx, e⟩ | ⟨x, hx, e, y, hy, e2⟩
      ·
       exact HO.out.dist.new HM.out hx e.symm
      ·
       rw [HM.out] at hx
       injection hx with hx
       subst hx
       exact (HO.out.dist2 m HMK.out).new hf hy e2.symm
     have hTL := HTL.out
     have TF := Lib.hid (nfunc_any l nb fb Z HA.out ids κ av next (.map (some mb)) (.slice none 0 0) uv3 sv3 m.nd.name f K wr (HGf.out wr hS.fr) hN3 hK hfl (HO.out.plain m HMK.out f hfk) (by have := GT.len_lt hfk; omega) HZF.out hnew (by omega) (HO.out.short m hmt) (HO.out.short f hft))
     obtain ⟨am3, cm3, hhm3, _, _⟩ := HGf.out wr hS.fr m hml
     have c1 := cell_of_row wr m.b 1 _ _ (0, 0) hhm3
     simp at c1
     have HSS := Lib.hid hS
     have HMM := Lib.hid hM
     have HF2 := Lib.hid hf2
     have HK3 := Lib.hid (And.intro hK2 hK3)
     have HFE := Lib.hid hf
     clear hS hM hf2 hK hK2 hK3 hN3 hnew hmt hft hhm3 hTL hfe hf hfk hfl
     go_wp2_with fail
     refine TF.out.mono ?_
     rintro e w5 ⟨rfl, uv5, sv5, hN5, hF5, hfr5⟩
     have HST5 := Lib.hid (show AllSt l t nb fb mb av next w i (j + 1) w5 from ⟨⟨_, _, hN5⟩, ⟨_, hF5, by have := HK3.out.1; simp; omega, fun x hx => by
      rcases List.mem_cons.1 hx with hx | hx
      ·
       exact .inr ⟨m, HM.out, by rw [hx], f, by rw [take_one HFE.out]; simp, by rw [hx]⟩
      ·
       rcases HK3.out.2 x hx with h | ⟨y, hy, e, z, hz, e2⟩
       ·
        exact .inl h
       ·
        rw [HM.out] at hy
        injection hy with hy
        subst hy
        exact .inr ⟨m, HM.out, e, z, by rw [take_one HFE.out]; simp [hz], e2⟩⟩, HSS.out.fr.then_ hfr5 (fun q _ e => by
      rcases e with e | e
      ·
       exact .inl e
      ·
       exact .inr (.inl e))⟩)
     have HMD5 := Lib.hid (show AllMd t mb (i + 1) w5 from by
      obtain ⟨KM5, h1, h2, h3⟩ := HMM.out
      exact ⟨KM5, h1.keep (hfr5.block mb h1.lt (fun e => by
       rcases e with e | e
       ·
        exact hnm e.symm
       ·
        exact hfm e.symm)), h2, h3⟩)
     have HF5 := Lib.hid (HF2.out.then_ hfr5 (D := (fun q => q = nb ∨ q = fb ∨ q = mb)) (fun q _ e => by
      rcases e with e | e
      ·
       exact .inl e
      ·
       exact .inr (.inl e)))
     clear hN5 hF5 hfr5 HSS HMM HF2 HK3
     go_wp2
     go_roundw
     case rel => exact ⟨j + 1, by go_num, by omega, HST5.out, HMD5.out, HF5.out⟩
     case measure => simp [intOf]; omega
    ·
     obtain rfl : j = m.ks.length := by omega
     have HST5 := Lib.hid (show AllSt l t nb fb mb av next w (i + 1) 0 wr from ⟨hS.nm, by
      obtain ⟨K, hK, hK2, hK3⟩ := hS.fm
      have hTL := HTL.out
      refine ⟨K, hK, ?_, fun x hx => .inl ?_⟩
      ·
       rw [HTK.out, List.length_append, GT.blocks_len]; omega
      ·
       rw [take_one HM.out]
       rcases hK3 x hx with ⟨y, hy, e⟩ | ⟨y, hy, e, _⟩
       ·
        exact ⟨y, by simp [hy], e⟩
       ·
        rw [HM.out] at hy
        injection hy with hy
        subst hy
        exact ⟨m, by simp, e⟩, hS.fr⟩)
     have HMD5 := Lib.hid hM
     clear hS hM hf2
     go_wp2
     go_roundw
     case rel => exact ⟨i + 1, by go_num, by omega, HST5.out, HMD5.out⟩
     case measure => simp [intOf]; omega
  ·
   have HSF := Lib.hid (And.intro hS.nm hS.fr)
   obtain ⟨uv1, sv1, hN1⟩ := hS.nm
   obtain ⟨-, -, -, -, c4, -, -, -⟩ := hN1.cells
   clear hS hM hN1
   go_wp2
   go_loopw [68] (fun p wr => p = .int .i64 0 ∧ (∃ uv sv, NmAt wr nb av next (.map (some fb)) (.map (some mb)) (.slice none 0 0) uv sv) ∧ Fr (fun q => q = nb ∨ q = fb ∨ q = mb) w wr) (fun p wr => 0)
   case atStart => exact ⟨rfl, HSF.out⟩
   case round =>
    obtain ⟨rfl, ⟨uv6, sv6, hN6⟩, hf6⟩ := hrel
    have HFIN := Lib.hid (And.intro hN6 hf6)
    clear hN6 hf6
    go_wp2
    go_ret
    exact ⟨rfl, _, _, HFIN.out.1, HFIN.out.2⟩
end Go.Proofs.YtihmbbkppkgcmaaGreatDoor
