/-
  Part of a proof of RunLoops: contracts of functions that the claim reaches, and plain lemmas.
-/
import Derived.Test.YtoelmnamlnbdhaaGreatDoorKfBA
import Derived.Test.YtoelmnamlnbdhaaGreatDoorKfAP
set_option linter.all false
namespace Go.Proofs.YtoelmnamlnbdhaaGreatDoor
open Go.RowKit
open Hg (GT)
structure Amb (l : List GT) (nb : Nat) (Z : Nat → Prop) : Prop where
 kids : ∀ s ∈ l, ∀ k ∈ s.ks, k ∈ l
 nz : ∀ s ∈ l, ¬ Z s.b
 nbz : ¬ Z nb
 ne : ∀ s ∈ l, s.b ≠ nb
def InB (l : List GT) (nb : Nat) : Nat → Prop := fun q => q = nb ∨ ∃ s ∈ l, q = s.b
set_option maxHeartbeats 4000000 in
set_option maxRecDepth 100000 in
theorem number_any (l : List GT) (nb : Nat) (Z : Nat → Prop) (hA : Amb l nb Z) (κ : Nat → Value) (av fv mv cv uv sv : Value) : ∀ (n : Nat) (t : GT), t ∈ l → t.subs.length ≤ n → ∀ (ids : Nat → Nat) (next : Nat) (w : World), (∀ s ∈ l, NodeAt w ids κ Z s) → NmAt w nb av next fv mv cv uv sv → next + t.subs.length ≤ 1000000 →
 Calls Tryz.prog 11 #[.pointer (some ⟨nb, 0, none⟩), ptrV t] w fun e w' => e = .returned (.tuple #[]) ∧ (∀ s ∈ l, NodeAt w' (setN ids next t.blocks) κ Z s) ∧ NmAt w' nb av (next + t.subs.length) fv mv cv uv sv ∧ Fr (InB l nb) w w' := by
 intro n
 induction n with
 | zero => intro t ht hn; rw [GT.subs_eq] at hn; simp at hn
 | succ n ih =>
   intro t ht hn ids next w hG hM hb
   have hlenk : t.subs.length = (GT.blocksL t.ks).length + 1 := by rw [GT.subs_eq, GT.blocksL_len]; rfl
   have hble : ∀ j, (GT.blocksL (t.ks.take j)).length ≤ (GT.blocksL t.ks).length := GT.subsL_take_le t.ks
   have hkl : t.ks.length ≤ 1000000 := by have := GT.len_le t.ks; omega
   have IH := Lib.hid ih
   obtain ⟨a, c, hh, hsl, hq⟩ := hG t ht
   have hIn : InB l nb t.b := .inr ⟨t, ht, rfl⟩
   have hIn2 : InB l nb nb := .inl rfl
   have hne : ¬ t.b = nb := hA.ne t ht
   have hne2 : ¬ nb = t.b := fun e => hne e.symm
   have hw1 : IntKind.u64.wrap ((next : Int) + 1) = ((next + 1 : Nat) : Int) := by rw [IntWalk.u64_in _ (by omega)]; push_cast; rfl
   have hG2 : ∀ s ∈ l, NodeAt ((w.setCell ⟨t.b, 9, none⟩ (.int .u64 (next : Int))).setCell ⟨nb, 1, none⟩ (.int .u64 ((next + 1 : Nat) : Int))) (upd ids t.b next) κ Z s := fun s hs =>
    ((hG s hs).setId next (hA.nz t ht)).fr (D := fun q => q = nb) ((Fr.refl (fun q => q = nb) _).set (p := ⟨nb, 1, none⟩) (.inl rfl) _) (hA.ne s hs) (fun q hz e => hA.nbz (e ▸ hz))
   have hM2 : NmAt ((w.setCell ⟨t.b, 9, none⟩ (.int .u64 (next : Int))).setCell ⟨nb, 1, none⟩ (.int .u64 ((next + 1 : Nat) : Int))) nb av (next + 1) fv mv cv uv sv := by
    have h1 : (w.setCell ⟨t.b, 9, none⟩ (.int .u64 (next : Int))).heap[nb]? = some (.cells (nmCells av next fv mv cv uv sv) 51 (0, 0)) := (Below.heap_setCell w _ _ nb hne2).trans hM
    exact heap_setCell_same h1 _
   have hF2 : Fr (InB l nb) w ((w.setCell ⟨t.b, 9, none⟩ (.int .u64 (next : Int))).setCell ⟨nb, 1, none⟩ (.int .u64 ((next + 1 : Nat) : Int))) := ((Fr.refl _ _).set (.inl hIn) _).set (.inl hIn2) _
   have c1 := cell_of_row w nb 1 _ _ (0, 0) hM
   have f1 : ∀ i, w.frozen? ⟨nb, i, none⟩ = false := fun i => by simp [World.frozen?, show w.heap[nb]? = _ from hM]
   have c9 := cell_of_row w t.b 9 _ _ (0, 0) hh
   have f9 : ∀ i, w.frozen? ⟨t.b, i, none⟩ = false := fun i => by simp [World.frozen?, hh]
   have c8 := cell_of_row w t.b 8 _ _ (0, 0) hh
   simp at c1 c9 c8
   have HG := Lib.hid hG2
   have HM := Lib.hid hM2
   have HF := Lib.hid hF2
   have HS := Lib.hid (show Sl ((w.setCell ⟨t.b, 9, none⟩ (.int .u64 (next : Int))).setCell ⟨nb, 1, none⟩ (.int .u64 ((next + 1 : Nat) : Int))) w.heap.size (.slice a t.ks.length c) t.ks.length (t.ks.map ptrV) from hsl.fr (Nat.le_refl _) hF2 (fun q e => by
    have hz := hq q e
    rintro (h | ⟨s, hs, h⟩)
    ·
     exact hA.nbz (h ▸ hz)
    ·
     exact hA.nz s hs (h ▸ hz)))
   have hBl : ∃ B, B = w.heap.size ∧ B ≤ ((w.setCell ⟨t.b, 9, none⟩ (.int .u64 (next : Int))).setCell ⟨nb, 1, none⟩ (.int .u64 ((next + 1 : Nat) : Int))).heap.size := ⟨_, rfl, by simp⟩
   have hQ : ∀ q, (Value.slice a t.ks.length c).ownBlock = some q → ¬ InB l nb q := fun q e => by
    have hz := hq q e
    rintro (h | ⟨s, hs, h⟩)
    ·
     exact hA.nbz (h ▸ hz)
    ·
     exact hA.nz s hs (h ▸ hz)
   have HQ := Lib.hid hQ
   obtain ⟨B, hB, hBl⟩ := hBl
   rw [← hB] at HS
   have HB := Lib.hid hBl
   have HA := Lib.hid hA
   have HT := Lib.hid ht
   clear hG hM hh hsl hq hG2 hM2 hF2 hA hIn hIn2 hQ ih hB hBl ht
   go_enter Tryz.func11, Tryz.ntmps11
   go_wp2
   push_cast at HG HM HF HS HB
   generalize World.setCell (World.setCell w _ _) _ _ = w2 at HG HM HF HS HB ⊢
   clear c1 c8 c9 f1 f9
   go_loopw [25] (fun p wr => ∃ j : Nat, p = .int .i64 (j : Int) ∧ j ≤ t.ks.length ∧ (∀ s ∈ l, NodeAt wr (setN (upd ids t.b next) (next + 1) (GT.blocksL (t.ks.take j))) κ Z s) ∧ NmAt wr nb av (next + 1 + (GT.blocksL (t.ks.take j)).length) fv mv cv uv sv ∧ Fr (InB l nb) w2 wr) (fun p wr => t.ks.length - (intOf p).toNat)
   case atStart => exact ⟨0, rfl, Nat.zero_le _, by simpa [GT.blocksL, GT.subsL_nil, setN] using HG.out, by simpa [GT.blocksL, GT.subsL_nil] using HM.out, Fr.refl _ _⟩
   case round =>
    obtain ⟨j, rfl, hj, hGj, hMj, hFj⟩ := hrel
    by_cases hlt : j < t.ks.length
    ·
     have hsj := HS.out.fr HB.out hFj HQ.out
     obtain ⟨b, o, rfl, _, kc⟩ := hsj.mapAt hlt
     have hkm : t.ks[j] ∈ t.ks := List.getElem_mem hlt
     have hk : t.ks[j] ∈ l := HA.out.kids t HT.out _ hkm
     have htk : GT.blocksL (t.ks.take (j + 1)) = GT.blocksL (t.ks.take j) ++ t.ks[j].blocks := GT.blocksL_take hlt
     have hsz : (GT.blocksL (t.ks.take (j + 1))).length = (GT.blocksL (t.ks.take j)).length + t.ks[j].subs.length := by rw [htk, List.length_append, GT.blocks_len]
     have TI := Lib.hid (IH.out t.ks[j] hk (by have := GT.len_lt hkm; omega) _ _ wr hGj hMj (by have := hble (j + 1); omega))
     have HFj := Lib.hid hFj
     have HTK := Lib.hid htk
     have HSZ := Lib.hid hsz
     clear hsj hGj hMj hFj hk hkm htk hsz hble hlenk
     go_wp2_with fail
     refine TI.out.mono ?_
     rintro e w3 ⟨rfl, hG3, hM3, hF3⟩
     have HG3 := Lib.hid hG3
     have HM3 := Lib.hid hM3
     have HF3 := Lib.hid (HFj.out.trans hF3)
     clear hG3 hM3 hF3
     go_wp2
     go_roundw
     case rel =>
      refine ⟨j + 1, by go_num, by omega, ?_, ?_, HF3.out⟩
      ·
       rw [HTK.out, setN_append]; exact HG3.out
      ·
       rw [HSZ.out, ← Nat.add_assoc]; exact HM3.out
     case measure => simp [intOf]; omega
    ·
     obtain rfl : j = t.ks.length := by omega
     rw [List.take_length] at hGj hMj
     have HGj := Lib.hid hGj
     have HMj := Lib.hid hMj
     have HFj := Lib.hid (HF.out.trans hFj)
     have HL := Lib.hid hlenk
     clear hGj hMj hFj hlenk hble
     go_wp2
     go_end0
     refine ⟨rfl, ?_, ?_, HFj.out⟩
     ·
      rw [GT.blocks_eq]; exact HGj.out
     ·
      rw [HL.out, Nat.add_comm _ 1, ← Nat.add_assoc]; exact HMj.out
end Go.Proofs.YtoelmnamlnbdhaaGreatDoor
namespace Hg
def gl {α β : Type} [BEq α] (M : List (α × β)) (x : α) : Option β := (M.find? (·.1 == x)).map (·.2)
theorem gl_cons {α β : Type} [BEq α] (k : α) (v : β) (M : List (α × β)) (x : α) : gl ((k, v) :: M) x = if k == x then some v else gl M x := by
 unfold gl
 rw [List.find?_cons]
 by_cases h : (k == x) = true
 ·
  simp [h]
 ·
  simp [h]
theorem gl_map {α β γ : Type} [BEq α] (f : β → γ) (M : List (α × β)) (x : α) : gl (M.map fun p => (p.1, f p.2)) x = (gl M x).map f := by
 induction M with
 | nil => rfl
 | cons p M ih =>
   rw [List.map_cons, gl_cons, ih]
   obtain ⟨k, v⟩ := p
   rw [gl_cons]
   by_cases h : (k == x) = true
   ·
    simp [h]
   ·
    simp [h]
theorem gl_mem {α β : Type} [BEq α] {M : List (α × β)} {x : α} {v : β} (h : gl M x = some v) : ∃ k, (k, v) ∈ M := by
 unfold gl at h
 cases hf : M.find? (·.1 == x) with
 | none => rw [hf] at h; cases h
 | some p =>
   rw [hf] at h
   injection h with h
   exact ⟨p.1, by rw [← h]; exact List.mem_of_find?_eq_some hf⟩
theorem gl_key {α β : Type} [BEq α] [LawfulBEq α] (v : β) (K : List α) (x : α) : gl (K.map fun k => (k, v)) x = if x ∈ K then some v else none := by
 induction K with
 | nil => rfl
 | cons k K ih =>
   rw [List.map_cons, gl_cons, ih]
   by_cases h : k = x
   ·
    subst h; simp
   ·
    have h2 : (k == x) = false := by simpa using h
    rw [h2]
    simp [List.mem_cons, show x ≠ k from fun e => h e.symm]
theorem inScope_gl (l : List (Str × Nat)) (s : Str) : inScope l s = gl l s := rfl
end Hg
namespace Hg.GT
def rf (ρ : Nat → Nat) : GT → GT | .mk b nd md tt ks => .mk b { nd with ref := ρ b } md tt ks
theorem rf_b (ρ : Nat → Nat) (s : GT) : (s.rf ρ).b = s.b := by cases s; rfl
theorem rf_ks (ρ : Nat → Nat) (s : GT) : (s.rf ρ).ks = s.ks := by cases s; rfl
theorem rf_md (ρ : Nat → Nat) (s : GT) : (s.rf ρ).md = s.md := by cases s; rfl
theorem rf_tt (ρ : Nat → Nat) (s : GT) : (s.rf ρ).tt = s.tt := by cases s; rfl
theorem rf_nd (ρ : Nat → Nat) (s : GT) : (s.rf ρ).nd = { s.nd with ref := ρ s.b } := by cases s; rfl
theorem rf_zero {s : GT} (h : s.nd.ref = 0) : s.rf (fun _ => 0) = s := by
 cases s with
 | mk b nd md tt ks =>
   obtain ⟨x1, x2, x3, x4, x5, x6⟩ := nd
   have h : x5 = 0 := h
   subst h
   rfl
end Hg.GT
namespace Go.Proofs.YtoelmnamlnbdhaaGreatDoor
open Go.RowKit
open Hg (GT gl)
def XMap {α : Type} [BEq α] (k : TypeId) (enc : α → Value) (w : World) (b : Nat) (M : List (α × Value)) : Prop :=
 ∃ n D, n ≤ M.length ∧ w.ownsMap Tryz.prog k rawR b n D ∧ ∀ x l, keyOf Tryz.prog k (enc x) = some l → match gl M x with | none => Maps.has D l = false | some v => ∀ z, D.atKey l z = .held v
section
variable {α : Type} [BEq α] [LawfulBEq α] {k t e : TypeId} {enc : α → Value} {w w' : World} {b : Nat} {M : List (α × Value)}
theorem XMap.made (k : TypeId) (enc : α → Value) (w : World) : XMap k enc (w.alloc (.map #[] 0)) w.heap.size [] :=
 ⟨0, _, Nat.le_refl _, World.ownsMap_made w _ _ _, fun _ _ _ => rfl⟩
theorem XMap.lt (h : XMap k enc w b M) : b < w.heap.size := by
 obtain ⟨_, D, _, ho, _⟩ := h
 exact ho.lt
theorem XMap.keep (h : XMap k enc w b M) (hh : w'.heap[b]? = w.heap[b]?) : XMap k enc w' b M := by
 obtain ⟨n, D, hn, ho, hs⟩ := h
 obtain ⟨es, clock, hb, F, hs', hD⟩ := ho
 exact ⟨n, D, hn, ⟨es, clock, hh.trans hb, F, hs', hD⟩, hs⟩
theorem XMap.obj (h : XMap k enc w b M) : ∃ es clock, w.heap[b]? = some (.map es clock) := by
 obtain ⟨_, D, _, ho, _⟩ := h
 exact owns_map ho
theorem XMap.fr {D : Nat → Prop} (h : XMap k enc w b M) (hf : Fr D w w') (hd : ¬ D b) : XMap k enc w' b M := h.keep (hf.block b h.lt hd)
theorem XMap.look (h : XMap k enc w b M) (hk : Maps.Keyed Tryz.prog k) (ht : (Tryz.prog).underlying t = some (.map k e)) {z : Value} (hz : (zeroValue e).run Tryz.prog w = .ok z w) {x : α} (hl : ∃ l, keyOf Tryz.prog k (enc x) = some l) :
 (Instr.lookup t (.map (some b)) (enc x) false).run Tryz.prog w = .ok ((gl M x).getD z) w := by
 obtain ⟨n, D, hn, ho, hs⟩ := h
 obtain ⟨l, hl⟩ := hl
 obtain ⟨v, ps, hrun, hv⟩ := ho.lookup hk ht hz (zd := .held z) (zp := []) rfl hl
 have hx := hs x l hl
 simp only [rawR, Option.some.injEq, Prod.mk.injEq] at hv
 cases hg : gl M x with
 | none =>
   rw [hg] at hx
   rw [Maps.atKey_of_not_has hx] at hv
   have e : v = z := by simpa using hv.1
   rw [hrun, e]; rfl
 | some u =>
   rw [hg] at hx
   rw [hx] at hv
   have e : v = u := by simpa using hv.1
   rw [hrun, e]; rfl
theorem XMap.look_ok (h : XMap k enc w b M) (hk : Maps.Keyed Tryz.prog k) (ht : (Tryz.prog).underlying t = some (.map k e)) {z : Value} (hz : (zeroValue e).run Tryz.prog w = .ok z w) {x : α} (hl : ∃ l, keyOf Tryz.prog k (enc x) = some l) :
 (Instr.lookup t (.map (some b)) (enc x) true).run Tryz.prog w = .ok (.tuple #[(gl M x).getD z, .bool (gl M x).isSome]) w := by
 obtain ⟨n, D, hn, ho, hs⟩ := h
 obtain ⟨l, hl⟩ := hl
 obtain ⟨v, ps, hrun, hv⟩ := ho.look_ok hk ht hz (zd := .held z) (zp := []) rfl hl
 have hx := hs x l hl
 simp only [rawR, Option.some.injEq, Prod.mk.injEq] at hv
 cases hg : gl M x with
 | none =>
   rw [hg] at hx
   have hx' : Maps.has D l = false := hx
   rw [Maps.atKey_of_not_has hx'] at hv
   have e : v = z := by simpa using hv.1
   rw [hrun, hx', e]; rfl
 | some u =>
   rw [hg] at hx
   have hx' : ∀ z, D.atKey l z = .held u := hx
   rw [hx'] at hv
   have e : v = u := by simpa using hv.1
   rw [hrun, Maps.has_true_of_atKey hx', e]; rfl
theorem XMap.put (h : XMap k enc w b M) (hk : Maps.Keyed Tryz.prog k) (ht : (Tryz.prog).underlying t = some (.map k e)) (hinj : ∀ x y, enc x = enc y → x = y) (hM : M.length ≤ 1000000) (x : α) (hl : ∃ l, keyOf Tryz.prog k (enc x) = some l) (v : Value) :
 ∃ w', (Instr.mapUpdate t (.map (some b)) (enc x) v).run Tryz.prog w = .ok () w' ∧ XMap k enc w' b ((x, v) :: M) ∧ w.grownBy w' (some b) := by
 obtain ⟨n, D, hn, ho, hs⟩ := h
 obtain ⟨l, hl⟩ := hl
 obtain ⟨w', hrun, ho', hg⟩ := ho.update hk ht (by unfold maxLen; omega) hl (val := v) (d := .held v) (ps := []) rfl
 have hkey : WideAt.IsKeyLit l := hk.key hl
 have htid := ho.tidy hk
 refine ⟨w', hrun, ⟨_, _, ?_, ho', fun y ly hly => ?_⟩, hg⟩
 ·
  simp; omega
 ·
  rw [Hg.gl_cons]
  by_cases e : x = y
  ·
   subst e
   have : ly = l := by rw [hly] at hl; exact Option.some.inj hl
   subst this
   rw [if_pos (by simp)]
   exact fun z => Maps.atKey_put_same htid.isMap hkey _ _
  ·
   rw [if_neg (by simpa using e)]
   have hne : ly ≠ l := fun e2 => e (hinj _ _ (hk.inj (e2 ▸ hly) hl)).symm
   have hx := hs y ly hly
   cases hg : gl M y with
   | none =>
     rw [hg] at hx
     show Maps.has _ _ = false
     rw [Maps.has_put_other hne]
     exact hx
   | some u =>
     rw [hg] at hx
     intro z
     rw [Maps.atKey_put_other hne]
     exact hx z
end
theorem full_keyed : Maps.Keyed Tryz.prog 80 := Maps.Keyed.of_law (deep_law (m := 2) (by omega) (by kernel_rfl) (by kernel_rfl) (by kernel_rfl))
theorem size_pos : ∃ n, (Tryz.prog).types.size = n + 1 := ⟨(Tryz.prog).types.size - 1, by kernel_rfl⟩
theorem cells_full : (Tryz.prog).cellsOf 80 = 2 := by kernel_rfl
theorem cells_str : (Tryz.prog).cellsOf 9 = 1 := by kernel_rfl
theorem type_full : (Tryz.prog).keyType 80 = true := by kernel_rfl
theorem keyLits_struct {P : Program} {d : Nat} {t : TypeId} {fs : Array Field} {cs : List Value} (hu : P.underlying t = some (.struct fs)) : P.keyLits (d + 1) t cs = if cs.length = P.cellsOf t ∧ fs.all (·.name != "_") = true then (fs.toList.mapM fun f => P.keyLits d f.type ((cs.drop f.offset).take (P.cellsOf f.type))).map List.flatten else none := by
 simp only [Program.keyLits, hu]
theorem keyOf_full (a b : List UInt8) (ha : a.length ≤ 1000000) (hb : b.length ≤ 1000000) : ∃ l, keyOf Tryz.prog 80 (.agg #[strV a, strV b]) = some l := by
 have hu := Tryz.underlying80
 have hs := Tryz.underlying9
 obtain ⟨n, hn⟩ := size_pos
 have h1 : ∀ s : List UInt8, s.length ≤ 1000000 → (Tryz.prog).keyLits (n + 1) 9 [strV s] = some [.string s] := by
  intro s h
  simp only [Program.keyLits, hs]
  rw [if_pos]
  show s.length ≤ maxLen
  unfold maxLen; omega
 unfold keyOf
 rw [hu]
 simp only [type_full, Value.formed, hu, cells_full, Bool.true_and]
 rw [if_pos (by rfl), hn, keyLits_struct hu, if_pos ⟨by rw [cells_full]; rfl, by kernel_rfl⟩]
 have e1 : ((Value.agg #[strV a, strV b]).cells.toList.drop 0).take 1 = [strV a] := rfl
 have e2 : ((Value.agg #[strV a, strV b]).cells.toList.drop 1).take 1 = [strV b] := rfl
 simp only [List.mapM_cons, List.mapM_nil, cells_str, e1, e2, h1 a ha, h1 b hb]
 exact ⟨_, rfl⟩
theorem str_keyed : Maps.Keyed Tryz.prog 9 := Maps.string_keyed Tryz.underlying9
theorem keyOf_strV (a : List UInt8) (ha : a.length ≤ 1000000) : ∃ l, keyOf Tryz.prog 9 (strV a) = some l := by
 have hs := Tryz.underlying9
 refine ⟨.string a, ?_⟩
 unfold keyOf
 rw [hs]
 simp only [mapKey, hs]
 rw [if_pos]
 show a.length ≤ maxLen
 unfold maxLen; omega
def fullV (x : List UInt8 × List UInt8) : Value := .agg #[strV x.1, strV x.2]
theorem strV_inj {a b : List UInt8} (h : strV a = strV b) : a = b := by
 injection h with h
 injection h with h
 simpa using congrArg Array.toList h
theorem fullV_inj (x y : List UInt8 × List UInt8) (h : fullV x = fullV y) : x = y := by
 unfold fullV at h
 injection h with h
 have h := congrArg Array.toList h
 simp only [List.cons.injEq] at h
 exact Prod.ext (strV_inj h.1) (strV_inj h.2.1)
abbrev NodeR (w : World) (ids ρ : Nat → Nat) (κ : Nat → Value) (Z : Nat → Prop) (s : GT) : Prop := NodeAt w ids κ Z (s.rf ρ)
theorem NodeR.frr {D : Nat → Prop} {w w' : World} {ids ρ : Nat → Nat} {κ : Nat → Value} {Z : Nat → Prop} {s : GT} (h : NodeR w ids ρ κ Z s) (hf : Fr D w w') (h1 : ¬ D s.b) (h2 : ∀ q, Z q → ¬ D q) : NodeR w' ids ρ κ Z s :=
 NodeAt.fr h hf (by rw [GT.rf_b]; exact h1) h2
theorem NodeR.open_ {w : World} {ids ρ : Nat → Nat} {κ : Nat → Value} {Z : Nat → Prop} {s : GT} (h : NodeR w ids ρ κ Z s) : ∃ a c, w.heap[s.b]? = some (.cells (gtCells { s.nd with ref := ρ s.b } s.md s.tt (κ s.b) (.slice a s.ks.length c) (ids s.b)) 72 (0, 0)) ∧ Sl w w.heap.size (.slice a s.ks.length c) s.ks.length (s.ks.map ptrV) ∧
 ∀ q, (Value.slice a s.ks.length c).ownBlock = some q → Z q := by
 obtain ⟨a, c, hh, hs, hq⟩ := h
 rw [GT.rf_b, GT.rf_nd, GT.rf_md, GT.rf_tt, GT.rf_ks] at hh
 rw [GT.rf_ks] at hs hq
 exact ⟨a, c, hh, hs, hq⟩
theorem NodeR.of {w : World} {ids ρ : Nat → Nat} {κ : Nat → Value} {Z : Nat → Prop} {s : GT} {a : Option Addr} {c : Nat} (hh : w.heap[s.b]? = some (.cells (gtCells { s.nd with ref := ρ s.b } s.md s.tt (κ s.b) (.slice a s.ks.length c) (ids s.b)) 72 (0, 0))) (hs : Sl w w.heap.size (.slice a s.ks.length c) s.ks.length (s.ks.map ptrV))
 (hq : ∀ q, (Value.slice a s.ks.length c).ownBlock = some q → Z q) : NodeR w ids ρ κ Z s :=
 ⟨a, c, by rw [GT.rf_b, GT.rf_nd, GT.rf_md, GT.rf_tt, GT.rf_ks]; exact hh, by rw [GT.rf_ks]; exact hs, by rw [GT.rf_ks]; exact hq⟩
theorem NodeR.setRef {w : World} {ids ρ : Nat → Nat} {κ : Nat → Value} {Z : Nat → Prop} {s : GT} (h : NodeR w ids ρ κ Z s) {b : Nat} (id : Nat) (hz : ¬ Z b) : NodeR (w.setCell ⟨b, 4, none⟩ (.int .u64 (id : Int))) ids (upd ρ b id) κ Z s := by
 obtain ⟨a, c, hh, hs, hq⟩ := h.open_
 have hsl := sl_set_ne (p := ⟨b, 4, none⟩) hs (fun e => hz (hq _ e)) (.int .u64 (id : Int))
 refine NodeR.of (a := a) (c := c) ?_ (by simpa using hsl) hq
 by_cases e : s.b = b
 ·
  subst e
  rw [upd_same]
  exact heap_setCell_same hh _
 ·
  rw [upd_other _ _ e]
  exact (Below.heap_setCell w _ _ s.b e).trans hh
abbrev SMap := XMap (α := List UInt8) 9 strV
abbrev FMap := XMap (α := List UInt8 × List UInt8) 80 fullV
@[reducible] def ptrB (b : Nat) : Value := .pointer (some ⟨b, 0, none⟩)
def lvlM (m : List (List UInt8 × Nat)) : List (List UInt8 × Value) := m.map fun p => (p.1, ptrB p.2)
def usedM (l : List (List UInt8)) : List (List UInt8 × Value) := l.map fun k => (k, .bool true)
def Sc (w : World) (B ub : Nat) : List Nat → List (List (List UInt8 × Nat)) → Prop
 | [], [] => True
 | q :: qs, m :: ms => SMap w q (lvlM m) ∧ B ≤ q ∧ q ≠ ub ∧ q ∉ qs ∧ Sc w B ub qs ms
 | _, _ => False
@[reducible] def mapV (q : Nat) : Value := .map (some q)
structure NS (l : List GT) (nb : Nat) (Z : Nat → Prop) (B : Nat) (ids : Nat → Nat) (av : Value) (next : Nat) (fv mv : Value) (ub : Nat) (cv sv : Value) (qs : List Nat) (ρ : Nat → Nat) (σ : Hg.NmSt) (w : World) : Prop where
 nm : NmAt w nb av next fv mv cv (.map (some ub)) sv
 us : SMap w ub (usedM σ.used)
 ul : B ≤ ub
 cs : w.ownsRow B 41 1 cv σ.calls.length (σ.calls.map ptrV)
 ss : w.ownsRow B 104 1 sv qs.length (qs.reverse.map mapV)
 sc : Sc w B ub qs σ.scope
 node : ∀ s ∈ l, NodeR w ids ρ nilK Z s
 here : ∀ m ∈ σ.scope, ∀ p ∈ m, ∃ s ∈ l, s.b = p.2
 ref : ∀ b, ρ b = ((gl σ.refs b).map ids).getD 0
 kin : ∀ c ∈ σ.calls, c ∈ l
end Go.Proofs.YtoelmnamlnbdhaaGreatDoor
namespace Go.Proofs.YtoelmnamlnbdhaaGreatDoor
open Go.RowKit
open Hg (GT gl)
theorem own_not_map {w : World} {base n q size : Nat} {e : TypeId} {v : Value} {xs : List Value} (h : w.ownsRow base e size v n xs) {es : Array MapEntry} {ck : Nat} (hh : w.heap[q]? = some (.map es ck)) : v.ownBlock = none ∨ v.ownBlock ≠ some q := by
 obtain ⟨_, h2⟩ := h
 rcases h2 with ⟨h0, _⟩ | ⟨g, cap, cur, hv, hg, hh', _⟩
 ·
  exact .inl (by rw [h0]; rfl)
 ·
  refine .inr (fun e => ?_)
  rw [hv] at e
  injection e with e
  have e : g = q := e
  subst e
  rw [hh] at hh'
  cases hh'
theorem Sc.keep {w w' : World} {B ub : Nat} : ∀ {qs : List Nat} {ms : List (List (List UInt8 × Nat))}, Sc w B ub qs ms → (∀ q ∈ qs, w'.heap[q]? = w.heap[q]?) → Sc w' B ub qs ms
 | [], [], _, _ => trivial
 | q :: qs, m :: ms, ⟨h1, h2, h3, h4, h5⟩, hk => ⟨h1.keep (hk q (by simp)), h2, h3, h4, Sc.keep h5 (fun q hq => hk q (by simp [hq]))⟩
theorem Sc.get {w : World} {B ub : Nat} : ∀ {qs : List Nat} {ms : List (List (List UInt8 × Nat))}, Sc w B ub qs ms → qs.length = ms.length ∧ (∀ q ∈ qs, B ≤ q ∧ q ≠ ub ∧ q < w.heap.size ∧ ∃ es ck, w.heap[q]? = some (.map es ck)) ∧ ∀ (j : Nat) (h1 : j < qs.length) (h2 : j < ms.length), SMap w qs[j] (lvlM ms[j])
 | [], [], _ => ⟨rfl, fun q hq => by simp at hq, fun j h => by simp at h⟩
 | q :: qs, m :: ms, ⟨h1, h2, h3, h4, h5⟩ => by
   obtain ⟨g1, g2, g3⟩ := Sc.get h5
   refine ⟨by simp [g1], fun x hx => ?_, fun j => ?_⟩
   ·
    rcases List.mem_cons.1 hx with hx | hx
    ·
     subst hx; exact ⟨h2, h3, h1.lt, h1.obj⟩
    ·
     exact g2 x hx
   ·
    cases j with
    | zero => intro _ _; exact h1
    | succ j => intro k1 k2; exact g3 j (by simpa using k1) (by simpa using k2)
section
variable {l : List GT} {nb : Nat} {Z : Nat → Prop} {B : Nat} {ids : Nat → Nat} {av : Value} {next : Nat} {fv mv : Value} {ub : Nat} {cv sv : Value} {qs : List Nat} {ρ : Nat → Nat} {σ : Hg.NmSt} {w w' : World}
theorem NS.node_ne (h : NS l nb Z B ids av next fv mv ub cv sv qs ρ σ w) {q : Nat} {es : Array MapEntry} {ck : Nat} (hh : w.heap[q]? = some (.map es ck)) : nb ≠ q ∧ ∀ s ∈ l, s.b ≠ q := by
 refine ⟨fun e => ?_, fun s hs e => ?_⟩
 ·
  have h1 : w.heap[nb]? = _ := h.nm
  rw [e, hh] at h1; cases h1
 ·
  obtain ⟨a, c, h1, _⟩ := (h.node s hs).open_
  rw [e, hh] at h1; cases h1
theorem NS.useUp (h : NS l nb Z B ids av next fv mv ub cv sv qs ρ σ w) (hZ : ∀ q, Z q → q < B) {x : List UInt8} (hg : w.grownBy w' (some ub)) (hu : SMap w' ub (usedM (x :: σ.used))) : NS l nb Z B ids av next fv mv ub cv sv qs ρ { σ with used := x :: σ.used } w' := by
 obtain ⟨es, ck, hm⟩ := h.us.obj
 obtain ⟨hn, hb⟩ := h.node_ne hm
 have hq := (Sc.get h.sc).2.1
 refine ⟨(hg.block nb h.nm.lt (fun e => by injection e with e; exact hn e)).trans h.nm, hu, h.ul, h.cs.kept hg (own_not_map h.cs hm), h.ss.kept hg (own_not_map h.ss hm), h.sc.keep (fun q hq' => hg.block q (hq q hq').2.2.1 (fun e => by injection e with e; exact (hq q hq').2.1 e)), fun s hs => ?_, h.here, h.ref, h.kin⟩
 exact (h.node s hs).frr (D := fun q => q = ub) (Fr.of_grown hg (fun q e => by injection e with e; exact e.symm)) (hb s hs) (fun q hz e => by have := hZ q hz; have := h.ul; omega)
theorem NS.lvlUp {q0 : Nat} {m : List (List UInt8 × Nat)} {ms : List (List (List UInt8 × Nat))} (h : NS l nb Z B ids av next fv mv ub cv sv (q0 :: qs) ρ σ w) (hsc : σ.scope = m :: ms) (hZ : ∀ q, Z q → q < B) {x : List UInt8} {t : GT} (ht : t ∈ l) (hg : w.grownBy w' (some q0)) (hu : SMap w' q0 (lvlM ((x, t.b) :: m))) :
 NS l nb Z B ids av next fv mv ub cv sv (q0 :: qs) ρ { σ with scope := ((x, t.b) :: m) :: ms } w' := by
 have hS := h.sc
 rw [hsc] at hS
 obtain ⟨k1, k2, k3, k4, k5⟩ := hS
 obtain ⟨es, ck, hm⟩ := k1.obj
 obtain ⟨hn, hb⟩ := h.node_ne hm
 have hq := (Sc.get k5).2.1
 refine ⟨(hg.block nb h.nm.lt (fun e => by injection e with e; exact hn e)).trans h.nm, h.us.keep (hg.block ub h.us.lt (fun e => by injection e with e; exact k3 e.symm)), h.ul, h.cs.kept hg (own_not_map h.cs hm), h.ss.kept hg (own_not_map h.ss hm),
  ⟨hu, k2, k3, k4, k5.keep (fun q hq' => hg.block q (hq q hq').2.2.1 (fun e => by injection e with e; exact k4 (e ▸ hq')))⟩, fun s hs => ?_, fun m' hm' p hp => ?_, h.ref, h.kin⟩
 ·
  exact (h.node s hs).frr (D := fun q => q = q0) (Fr.of_grown hg (fun q e => by injection e with e; exact e.symm)) (hb s hs) (fun q hz e => by have := hZ q hz; omega)
 ·
  have hh := h.here
  rw [hsc] at hh
  rcases List.mem_cons.1 hm' with e | e
  ·
   subst e
   rcases List.mem_cons.1 hp with e | e
   ·
    subst e; exact ⟨t, ht, rfl⟩
   ·
    exact hh m (by simp) p e
  ·
   exact hh m' (by simp [e]) p hp
end
def NOwn (l : List GT) (nb B : Nat) : Nat → Prop := fun q => InB l nb q ∨ B ≤ q
def errNo (k : Nat) : Nat := if k = 1 then 10 else 9
theorem findVar_drop : ∀ (ms : List (List (List UInt8 × Nat))) (j : Nat) (m : List (List UInt8 × Nat)) (name : List UInt8), ms[j]? = some m → gl m name = none → Hg.findVar (ms.drop j) name = Hg.findVar (ms.drop (j + 1)) name := by
 intro ms j m name hj hg
 obtain ⟨h1, h2⟩ := List.getElem?_eq_some_iff.1 hj
 rw [List.drop_eq_getElem_cons h1, h2]
 show (match Hg.inScope m name with | some b => some b | none => Hg.findVar (ms.drop (j + 1)) name) = _
 rw [Hg.inScope_gl, hg]
theorem findVar_hit : ∀ (ms : List (List (List UInt8 × Nat))) (j : Nat) (m : List (List UInt8 × Nat)) (name : List UInt8) (v : Nat), ms[j]? = some m → gl m name = some v → Hg.findVar (ms.drop j) name = some v := by
 intro ms j m name v hj hg
 obtain ⟨h1, h2⟩ := List.getElem?_eq_some_iff.1 hj
 rw [List.drop_eq_getElem_cons h1, h2]
 show (match Hg.inScope m name with | some b => some b | none => Hg.findVar (ms.drop (j + 1)) name) = _
 rw [Hg.inScope_gl, hg]
set_option maxHeartbeats 4000000 in
set_option maxRecDepth 100000 in
theorem find_any (l : List GT) (nb : Nat) (Z : Nat → Prop) (B : Nat) (ids : Nat → Nat) (av : Value) (next : Nat) (fv mv : Value) (ub : Nat) (cv sv : Value) (qs : List Nat) (ρ : Nat → Nat) (σ : Hg.NmSt) (name : List UInt8) (hn : name.length ≤ 1000000) (w : World) (hS : NS l nb Z B ids av next fv mv ub cv sv qs ρ σ w) (hl : σ.scope.length ≤ 1000000) :
 Calls Tryz.prog 90 #[.pointer (some ⟨nb, 0, none⟩), strV name] w fun e w' => e = .returned (match Hg.findVar σ.scope name with | some v => .tuple #[.int .u64 (ids v : Int), .int .i64 0] | none => .tuple #[.int .u64 0, .int .i64 9]) ∧ w = w' := by
 have hzp : (zeroValue 41).run Tryz.prog w = .ok (.pointer none) w := by kernel_rfl
 obtain ⟨hql, hqb, hget⟩ := Sc.get hS.sc
 have hsl := Sl.of_own hS.ss
 obtain ⟨-, -, -, -, -, -, c6, -⟩ := (show _ ∧ _ ∧ _ ∧ _ ∧ _ ∧ _ ∧ w.cell? ⟨nb, 6, none⟩ = some sv ∧ True from ⟨trivial, trivial, trivial, trivial, trivial, trivial, cell_of_row w nb 6 _ _ (0, 0) hS.nm, trivial⟩)
 have HG := Lib.hid hget
 have HH := Lib.hid hS.here
 have HN := Lib.hid hS.node
 have HSL := Lib.hid hsl
 have HQL := Lib.hid hql
 obtain ⟨a, c, rfl⟩ := hsl.form
 have hw0 : IntKind.i64.wrap ((qs.length : Int) - 1) = (qs.length : Int) - 1 := IntWalk.i64_in _ (by omega)
 have hqn : qs.length ≤ 1000000 := by omega
 have hf0 : Hg.findVar (σ.scope.drop (qs.length - qs.length)) name = Hg.findVar σ.scope name := by rw [Nat.sub_self]; rfl
 generalize Hg.findVar σ.scope name = fo at hf0 ⊢
 have HF0 := Lib.hid hf0
 clear hS hget hsl hqb hql hl hf0
 go_enter Tryz.func90, Tryz.ntmps90
 go_wp2
 go_loopw [6] (fun p wr => ∃ k : Nat, k ≤ qs.length ∧ p = .int .i64 ((k : Int) - 1) ∧ w = wr ∧ Hg.findVar (σ.scope.drop (qs.length - k)) name = fo) (fun p wr => (intOf p + 1).toNat)
 case atStart => exact ⟨qs.length, Nat.le_refl _, rfl, by first | trivial | rfl, HF0.out⟩
 case round =>
  obtain ⟨k, hk, rfl, rfl, hf⟩ := hrel
  have HF := Lib.hid hf
  clear hf
  cases k with
  | zero =>
    have hend : fo = none := by rw [← HF.out, Nat.sub_zero, HQL.out, List.drop_length]; rfl
    clear HF
    subst hend
    have e0 : ((0 : Nat) : Int) - 1 = -1 := rfl
    rw [e0]
    go_wp2
    exact bodyPost_ret (v := .tuple #[.int .u64 0, .int .i64 9]) (by simp [results, Tryz.results90, go_sem]) rfl ⟨rfl, rfl⟩
  | succ k =>
    have e1 : ((k + 1 : Nat) : Int) - 1 = (k : Int) := by omega
    rw [e1]
    have hwk : IntKind.i64.wrap ((k : Int) - 1) = (k : Int) - 1 := IntWalk.i64_in _ (by omega)
    have hj : qs.length - (k + 1) < qs.length := by omega
    have hjm : qs.length - (k + 1) < σ.scope.length := by have := HQL.out; omega
    have hkl : k < qs.reverse.length := by simp; omega
    obtain ⟨b, o, rfl, _, kc⟩ := (show Sl w w.heap.size (.slice a qs.reverse.length c) qs.reverse.length (qs.reverse.map mapV) from by rw [List.length_reverse]; exact HSL.out).mapAt hkl
    have hrev : qs.reverse[k] = qs[qs.length - (k + 1)] := by
     rw [List.getElem_reverse]
     congr 1
     omega
    have hM := HG.out _ hj hjm
    have hlook := hM.look_ok (t := 104) str_keyed Tryz.underlying104 hzp (keyOf_strV name hn)
    rw [hrev] at kc
    have hmj := List.getElem?_eq_getElem hjm
    generalize σ.scope[qs.length - (k + 1)] = m at hM hlook hmj
    generalize qs[qs.length - (k + 1)] = q at kc hM hlook
    replace kc : w.cell? ⟨b, o + k, none⟩ = some (.map (some q)) := kc
    unfold lvlM at hlook
    rw [Hg.gl_map] at hlook
    have hq1 : decide ((0 : Int) ≤ (k : Int)) = true := by simp
    cases hgm : gl m name with
    | none =>
      rw [hgm] at hlook
      replace hlook : (Instr.lookup 104 (.map (some q)) (strV name) true).run Tryz.prog w = .ok (.tuple #[.pointer none, .bool false]) w := hlook
      have HF2 := Lib.hid (show Hg.findVar (σ.scope.drop (qs.length - k)) name = fo from by rw [← HF.out, findVar_drop _ _ _ _ hmj hgm]; congr 2; omega)
      clear hM HF hmj hgm hrev hj hjm
      go_wp2
      go_roundw
      case rel => exact ⟨k, by omega, by go_num, by first | trivial | rfl, HF2.out⟩
      case measure => simp [intOf]
    | some v =>
      rw [hgm] at hlook
      replace hlook : (Instr.lookup 104 (.map (some q)) (strV name) true).run Tryz.prog w = .ok (.tuple #[.pointer (some ⟨v, 0, none⟩), .bool true]) w := hlook
      have hfin : fo = some v := by rw [← HF.out]; exact findVar_hit _ _ _ _ _ hmj hgm
      obtain ⟨key, hkm⟩ := Hg.gl_mem hgm
      obtain ⟨s, hs, hsv⟩ := HH.out m (List.mem_of_getElem? hmj) _ hkm
      have hsv : s.b = v := hsv
      subst hsv
      obtain ⟨a', c', hh, _⟩ := (HN.out s hs).open_
      have c9 := cell_of_row w s.b 9 _ _ (0, 0) hh
      simp at c9
      subst hfin
      clear hM HF hmj hgm hrev hj hjm hh hkm
      go_wp2
      exact bodyPost_ret (v := .tuple #[.int .u64 (ids s.b : Int), .int .i64 0]) (by simp [results, Tryz.results90, go_sem]) rfl ⟨rfl, rfl⟩
end Go.Proofs.YtoelmnamlnbdhaaGreatDoor
namespace Hg
structure Bd (σ : NmSt) (n : Nat) : Prop where
 us : σ.used.length ≤ n
 lv : ∀ m ∈ σ.scope, m.length ≤ n
 sc : σ.scope.length ≤ n
 ca : σ.calls.length ≤ n
theorem Bd.more {σ : NmSt} {n m : Nat} (h : Bd σ n) (hm : n ≤ m) : Bd σ m := ⟨Nat.le_trans h.us hm, fun x hx => Nat.le_trans (h.lv x hx) hm, Nat.le_trans h.sc hm, Nat.le_trans h.ca hm⟩
theorem Bd.declare {σ σ' : NmSt} {n : Nat} {t : GT} (h : Bd σ n) (hd : σ.declare t = .ok σ') : Bd σ' (n + 1) := by
 unfold NmSt.declare at hd
 by_cases hu : t.nd.name ∈ σ.used
 ·
  rw [if_pos hu] at hd; cases hd
 rw [if_neg hu] at hd
 cases hsc : σ.scope with
 | nil => rw [hsc] at hd; cases hd
 | cons m ms =>
   rw [hsc] at hd
   injection hd with hd
   subst hd
   have h1 := h.us; have h2 := h.lv; have h3 := h.sc; have h4 := h.ca
   rw [hsc] at h2 h3
   refine ⟨by simp; omega, fun x hx => ?_, by simpa using Nat.le_succ_of_le h3, by show σ.calls.length ≤ n + 1; omega⟩
   rcases List.mem_cons.1 hx with hx | hx
   ·
    subst hx
    have := h2 m (by simp)
    simp; omega
   ·
    have := h2 x (by simp [hx]); omega
end Hg
namespace Go.Proofs.YtoelmnamlnbdhaaGreatDoor
open Go.RowKit
open Hg (GT gl Bd)
section
variable {l : List GT} {nb : Nat} {Z : Nat → Prop} {B : Nat} {ids : Nat → Nat} {av : Value} {next : Nat} {fv mv : Value} {ub : Nat} {cv sv : Value} {qs : List Nat} {ρ : Nat → Nat} {σ : Hg.NmSt} {w w' : World}
theorem NS.below (h : NS l nb Z B ids av next fv mv ub cv sv qs ρ σ w) (hb : Below w.heap.size w w') : NS l nb Z B ids av next fv mv ub cv sv qs ρ σ w' := by
 have hg := below_grown50 hb none
 have hor : ∀ v : Value, v.ownBlock = none ∨ v.ownBlock ≠ none := fun v => by cases v.ownBlock <;> simp
 exact ⟨(hb.block nb h.nm.lt).trans h.nm, h.us.keep (hb.block ub h.us.lt), h.ul, h.cs.kept hg (hor cv), h.ss.kept hg (hor sv), h.sc.keep (fun q hq => hb.block q ((Sc.get h.sc).2.1 q hq).2.2.1), fun s hs => (h.node s hs).frr (D := fun _ => False) (Fr.of_grown hg (fun q e => by cases e)) (fun e => e) (fun q _ e => e), h.here, h.ref, h.kin⟩
theorem NS.drew (h : NS l nb Z B ids av next fv mv ub cv sv qs ρ σ w) : NS l nb Z B ids av next fv mv ub cv sv qs ρ σ w.drew := h.below ((Below.refl _ _).drew)
end
def NRes (l : List GT) (nb : Nat) (Z : Nat → Prop) (B : Nat) (ids : Nat → Nat) (av : Value) (next : Nat) (fv mv : Value) (ub : Nat) (qs : List Nat) (r : Except Nat Hg.NmSt) (w : World) (e : Ending) (w' : World) : Prop :=
 Fr (NOwn l nb B) w w' ∧ match r with
 | .ok σ' => e = .returned (.int .i64 0) ∧ ∃ cv sv ρ, NS l nb Z B ids av next fv mv ub cv sv qs ρ σ' w'
 | .error k => e = .returned (.int .i64 (errNo k : Int))
set_option maxHeartbeats 4000000 in
set_option maxRecDepth 100000 in
theorem declare_any (l : List GT) (nb : Nat) (Z : Nat → Prop) (B : Nat) (hZ : ∀ q, Z q → q < B) (ids : Nat → Nat) (av : Value) (next : Nat) (fv mv : Value) (ub : Nat) (cv sv : Value) (qs : List Nat) (ρ : Nat → Nat) (σ : Hg.NmSt) (t : GT) (ht : t ∈ l) (hn : t.nd.name.length ≤ 1000000) (r : Except Nat Hg.NmSt) (hr : σ.declare t = r) (h0 : r ≠ .error 0)
 (n : Nat) (hB : Bd σ n) (hn2 : n ≤ 1000000) (w : World) (hS : NS l nb Z B ids av next fv mv ub cv sv qs ρ σ w) :
 Calls Tryz.prog 51 #[.pointer (some ⟨nb, 0, none⟩), ptrV t] w (NRes l nb Z B ids av next fv mv ub qs r w) := by
 have hzb : ∀ W : World, (zeroValue 4).run Tryz.prog W = .ok (.bool false) W := fun W => by kernel_rfl
 have hnm := hS.nm
 obtain ⟨a, c, hh, -, -⟩ := (hS.node t ht).open_
 have c5 := cell_of_row w nb 5 _ _ (0, 0) hS.nm
 have c6 := cell_of_row w nb 6 _ _ (0, 0) hS.nm
 have k1 := cell_of_row w t.b 1 _ _ (0, 0) hh
 simp at c5 c6 k1
 have hlk := (hS.us.keep (w' := w.drew) rfl).look (t := 47) str_keyed Tryz.underlying47 (hzb _) (keyOf_strV t.nd.name hn)
 unfold usedM at hlk
 rw [Hg.gl_key] at hlk
 have HS := Lib.hid hS
 have hUL := hS.ul
 unfold Hg.NmSt.declare at hr
 by_cases hu : t.nd.name ∈ σ.used
 ·
  rw [if_pos hu] at hr hlk
  subst hr
  replace hlk : (Instr.lookup 47 (.map (some ub)) (strV t.nd.name) false).run Tryz.prog w.drew = .ok (.bool true) w.drew := hlk
  have HFR := Lib.hid (show Fr (NOwn l nb B) w w.drew from (Fr.refl _ _).drew)
  clear hS hh hu h0 hnm
  go_enter Tryz.func51, Tryz.ntmps51
  go_upto_region 1 with fail
  have hHeld : (fun w' => w'.cell? ⟨nb, 5, none⟩ = some (.map (some ub)) ∧ w'.cell? ⟨t.b, 1, none⟩ = some (strV t.nd.name)) w.drew := ⟨c5, k1⟩
  refine wp_region_two (fun w' => w'.cell? ⟨nb, 5, none⟩ = some (.map (some ub)) ∧ w'.cell? ⟨t.b, 1, none⟩ = some (strV t.nd.name)) 9 (by kernel_rfl) ?_
  refine tk 0 ?_ rfl (by kernel_rfl) (fun _ _ _ h => h) ‹_› (by rfl) ?_ ?_
  rotate_left
  · (intro w' hSw; (try dsimp only at hSw); go_simp; try with_reducible rfl)
  try simp only [Act.put, sA, sB, sC, sD, sE, sF]
  refine tk 1 ?_ rfl (by kernel_rfl) (fun _ _ _ h => h) ‹_› (by rfl) ?_ ?_
  rotate_left
  · (intro w' hSw; (try dsimp only at hSw); go_simp; try with_reducible rfl)
  try simp only [Act.put, sA, sB, sC, sD, sE, sF]
  refine tk 2 ?_ rfl (by kernel_rfl) (fun _ _ _ h => h) ‹_› (by rfl) ?_ ?_
  rotate_left
  · (intro w' hSw; (try dsimp only at hSw); go_simp; try with_reducible rfl)
  try simp only [Act.put, sA, sB, sC, sD, sE, sF]
  refine tk 3 ?_ rfl (by kernel_rfl) (fun _ _ _ h => h) ‹_› (by rfl) ?_ ?_
  rotate_left
  · (intro w' hSw; (try dsimp only at hSw); go_simp; try with_reducible rfl)
  try simp only [Act.put, sA, sB, sC, sD, sE, sF]
  refine tk 4 ?_ rfl (by kernel_rfl) (fun _ _ _ h => h) ‹_› (by rfl) ?_ ?_
  rotate_left
  · (intro w' hSw; (try dsimp only at hSw); go_simp; try with_reducible rfl)
  try simp only [Act.put, sA, sB, sC, sD, sE, sF]
  refine tk 5 ?_ rfl (by kernel_rfl) (fun _ _ _ h => h) ‹_› (by rfl) ?_ ?_
  rotate_left
  · (intro w' hSw; (try dsimp only at hSw); go_simp; try with_reducible rfl)
  try simp only [Act.put, sA, sB, sC, sD, sE, sF]
  refine tk 6 ?_ rfl (by kernel_rfl) (fun _ _ _ h => h) ‹_› (by rfl) ?_ ?_
  rotate_left
  · (intro w' hSw; (try dsimp only at hSw); go_simp; try with_reducible rfl)
  try simp only [Act.put, sA, sB, sC, sD, sE, sF]
  refine tk 7 ?_ rfl (by kernel_rfl) (fun _ _ _ h => h) ‹_› (by rfl) ?_ ?_
  rotate_left
  · (intro w' hSw; (try dsimp only at hSw); go_simp; try with_reducible rfl)
  try simp only [Act.put, sA, sB, sC, sD, sE, sF]
  refine tk 8 ?_ rfl (by kernel_rfl) (fun _ _ _ h => h) ‹_› (by rfl) ?_ ?_
  rotate_left
  · (intro w' hSw; (try dsimp only at hSw); go_simp; try with_reducible rfl)
  try simp only [Act.put, sA, sB, sC, sD, sE, sF]
  refine wpAnyT_tail (by kernel_rfl) ?_
  simp only [List.drop_succ_cons, List.drop_zero]
  go_wp2
  go_ret
  exact ⟨HFR.out, rfl⟩
 ·
  rw [if_neg hu] at hr hlk
  replace hlk : (Instr.lookup 47 (.map (some ub)) (strV t.nd.name) false).run Tryz.prog w.drew = .ok (.bool false) w.drew := hlk
  cases hsc : σ.scope with
  | nil => rw [hsc] at hr; exact absurd hr.symm h0
  | cons m ms =>
    rw [hsc] at hr
    have hr : Except.ok { σ with used := t.nd.name :: σ.used, scope := ((t.nd.name, t.b) :: m) :: ms } = r := hr
    subst hr
    have hSc := hS.sc
    rw [hsc] at hSc
    cases qs with
    | nil => exact hSc.elim
    | cons q0 qs' =>
    obtain ⟨s1, s2, s3, s4, s5⟩ := hSc
    have hql : (q0 :: qs').length ≤ 1000000 := by have := (Sc.get hS.sc).1; have := hB.sc; omega
    obtain ⟨W2, hrun2, hU2, hg2⟩ := (hS.us.keep (w' := w.drew.drew) rfl).put (t := 47) str_keyed Tryz.underlying47 (fun x y => strV_inj) (by have := hB.us; unfold usedM; simpa using Nat.le_trans this hn2) t.nd.name (keyOf_strV t.nd.name hn) (.bool true)
    have hS2 := hS.drew.drew.useUp hZ hg2 hU2
    have hF2 : Fr (NOwn l nb B) w W2 := ((Fr.refl (NOwn l nb B) w).drew.drew).step hg2 (fun q e => by injection e with e; exact .inl (.inr (by omega)))
    have hM2 : SMap W2 q0 (lvlM m) := s1.keep (hg2.block q0 s1.lt (fun e => by injection e with e; exact s3 e))
    obtain ⟨W3, hrun3, hU3, hg3⟩ := (hM2.keep (w' := W2.drew) rfl).put (t := 104) str_keyed Tryz.underlying104 (fun x y => strV_inj) (by have := hB.lv m (by rw [hsc]; simp); unfold lvlM; simpa using Nat.le_trans this hn2) t.nd.name (keyOf_strV t.nd.name hn) (ptrV t)
    have HS3 := Lib.hid (hS2.drew.lvlUp (m := m) (ms := ms) hsc hZ ht hg3 hU3)
    have HF3 := Lib.hid (hF2.drew.step hg3 (fun q e => by injection e with e; exact .inl (.inr (by omega))))
    obtain ⟨a', c', hh', -, -⟩ := (hS2.node t ht).open_
    have d6 := cell_of_row W2 nb 6 _ _ (0, 0) hS2.nm
    have k2 := cell_of_row W2 t.b 1 _ _ (0, 0) hh'
    simp at d6 k2
    have hsl := Sl.of_own hS2.ss
    obtain ⟨sa, sz, rfl⟩ := hsl.form
    have hrl : qs'.length < (q0 :: qs').reverse.length := by simp
    obtain ⟨b, o, rfl, _, kc⟩ := (show Sl W2 W2.heap.size (.slice sa (q0 :: qs').reverse.length sz) (q0 :: qs').reverse.length ((q0 :: qs').reverse.map mapV) from by rw [List.length_reverse]; exact hsl).mapAt hrl
    have hrev : (q0 :: qs').reverse[qs'.length] = q0 := by simp [List.getElem_append]
    rw [hrev] at kc
    replace kc : W2.cell? ⟨b, o + qs'.length, none⟩ = some (.map (some q0)) := kc
    have hwl : IntKind.i64.wrap (((q0 :: qs').length : Int) - 1) = (qs'.length : Int) := by rw [IntWalk.i64_in _ (by omega)]; simp
    have hln : qs'.length < (q0 :: qs').length := by simp
    generalize (q0 :: qs').length = N at c6 d6 hwl hql hln
    clear hS hS2 hF2 hM2 hU2 hU3 hg2 hg3 hh hh' hu h0 hnm s1 s5 hsl hrl hrev hB
    go_enter Tryz.func51, Tryz.ntmps51
    go_upto_region 1 with fail
    have hHeld : (fun w' => w'.cell? ⟨nb, 5, none⟩ = some (.map (some ub)) ∧ w'.cell? ⟨t.b, 1, none⟩ = some (strV t.nd.name)) w.drew := ⟨c5, k1⟩
    refine wp_region_two (fun w' => w'.cell? ⟨nb, 5, none⟩ = some (.map (some ub)) ∧ w'.cell? ⟨t.b, 1, none⟩ = some (strV t.nd.name)) 9 (by kernel_rfl) ?_
    refine tk 0 ?_ rfl (by kernel_rfl) (fun _ _ _ h => h) ‹_› (by rfl) ?_ ?_
    rotate_left
    · (intro w' hSw; (try dsimp only at hSw); go_simp; try with_reducible rfl)
    try simp only [Act.put, sA, sB, sC, sD, sE, sF]
    refine tk 1 ?_ rfl (by kernel_rfl) (fun _ _ _ h => h) ‹_› (by rfl) ?_ ?_
    rotate_left
    · (intro w' hSw; (try dsimp only at hSw); go_simp; try with_reducible rfl)
    try simp only [Act.put, sA, sB, sC, sD, sE, sF]
    refine tk 2 ?_ rfl (by kernel_rfl) (fun _ _ _ h => h) ‹_› (by rfl) ?_ ?_
    rotate_left
    · (intro w' hSw; (try dsimp only at hSw); go_simp; try with_reducible rfl)
    try simp only [Act.put, sA, sB, sC, sD, sE, sF]
    refine tk 3 ?_ rfl (by kernel_rfl) (fun _ _ _ h => h) ‹_› (by rfl) ?_ ?_
    rotate_left
    · (intro w' hSw; (try dsimp only at hSw); go_simp; try with_reducible rfl)
    try simp only [Act.put, sA, sB, sC, sD, sE, sF]
    refine tk 4 ?_ rfl (by kernel_rfl) (fun _ _ _ h => h) ‹_› (by rfl) ?_ ?_
    rotate_left
    · (intro w' hSw; (try dsimp only at hSw); go_simp; try with_reducible rfl)
    try simp only [Act.put, sA, sB, sC, sD, sE, sF]
    refine tk 5 ?_ rfl (by kernel_rfl) (fun _ _ _ h => h) ‹_› (by rfl) ?_ ?_
    rotate_left
    · (intro w' hSw; (try dsimp only at hSw); go_simp; try with_reducible rfl)
    try simp only [Act.put, sA, sB, sC, sD, sE, sF]
    refine tk 6 ?_ rfl (by kernel_rfl) (fun _ _ _ h => h) ‹_› (by rfl) ?_ ?_
    rotate_left
    · (intro w' hSw; (try dsimp only at hSw); go_simp; try with_reducible rfl)
    try simp only [Act.put, sA, sB, sC, sD, sE, sF]
    refine tk 7 ?_ rfl (by kernel_rfl) (fun _ _ _ h => h) ‹_› (by rfl) ?_ ?_
    rotate_left
    · (intro w' hSw; (try dsimp only at hSw); go_simp; try with_reducible rfl)
    try simp only [Act.put, sA, sB, sC, sD, sE, sF]
    refine tk 8 ?_ rfl (by kernel_rfl) (fun _ _ _ h => h) ‹_› (by rfl) ?_ ?_
    rotate_left
    · (intro w' hSw; (try dsimp only at hSw); go_simp; try with_reducible rfl)
    try simp only [Act.put, sA, sB, sC, sD, sE, sF]
    refine wpAnyT_tail (by kernel_rfl) ?_
    simp only [List.drop_succ_cons, List.drop_zero]
    go_upto_region 3 with fail
    have hHeld : (fun w' => w'.cell? ⟨nb, 5, none⟩ = some (.map (some ub)) ∧ w'.cell? ⟨t.b, 1, none⟩ = some (strV t.nd.name)) w.drew.drew := ⟨c5, k1⟩
    refine wp_region_two (fun w' => w'.cell? ⟨nb, 5, none⟩ = some (.map (some ub)) ∧ w'.cell? ⟨t.b, 1, none⟩ = some (strV t.nd.name)) 9 (by kernel_rfl) ?_
    refine tk 0 ?_ rfl (by kernel_rfl) (fun _ _ _ h => h) ‹_› (by rfl) ?_ ?_
    rotate_left
    · (intro w' hSw; (try dsimp only at hSw); go_simp; try with_reducible rfl)
    try simp only [Act.put, sA, sB, sC, sD, sE, sF]
    refine tk 1 ?_ rfl (by kernel_rfl) (fun _ _ _ h => h) ‹_› (by rfl) ?_ ?_
    rotate_left
    · (intro w' hSw; (try dsimp only at hSw); go_simp; try with_reducible rfl)
    try simp only [Act.put, sA, sB, sC, sD, sE, sF]
    refine tk 2 ?_ rfl (by kernel_rfl) (fun _ _ _ h => h) ‹_› (by rfl) ?_ ?_
    rotate_left
    · (intro w' hSw; (try dsimp only at hSw); go_simp; try with_reducible rfl)
    try simp only [Act.put, sA, sB, sC, sD, sE, sF]
    refine tk 3 ?_ rfl (by kernel_rfl) (fun _ _ _ h => h) ‹_› (by rfl) ?_ ?_
    rotate_left
    · (intro w' hSw; (try dsimp only at hSw); go_simp; try with_reducible rfl)
    try simp only [Act.put, sA, sB, sC, sD, sE, sF]
    refine tk 4 ?_ rfl (by kernel_rfl) (fun _ _ _ h => h) ‹_› (by rfl) ?_ ?_
    rotate_left
    · (intro w' hSw; (try dsimp only at hSw); go_simp; try with_reducible rfl)
    try simp only [Act.put, sA, sB, sC, sD, sE, sF]
    refine tk 5 ?_ rfl (by kernel_rfl) (fun _ _ _ h => h) ‹_› (by rfl) ?_ ?_
    rotate_left
    · (intro w' hSw; (try dsimp only at hSw); go_simp; try with_reducible rfl)
    try simp only [Act.put, sA, sB, sC, sD, sE, sF]
    refine tk 6 ?_ rfl (by kernel_rfl) (fun _ _ _ h => h) ‹_› (by rfl) ?_ ?_
    rotate_left
    · (intro w' hSw; (try dsimp only at hSw); go_simp; try with_reducible rfl)
    try simp only [Act.put, sA, sB, sC, sD, sE, sF]
    refine tk 7 ?_ rfl (by kernel_rfl) (fun _ _ _ h => h) ‹_› (by rfl) ?_ ?_
    rotate_left
    · (intro w' hSw; (try dsimp only at hSw); go_simp; try with_reducible rfl)
    try simp only [Act.put, sA, sB, sC, sD, sE, sF]
    refine tk 8 ?_ rfl (by kernel_rfl) (fun _ _ _ h => h) ‹_› (by rfl) ?_ ?_
    rotate_left
    · (intro w' hSw; (try dsimp only at hSw); go_simp; try with_reducible rfl)
    try simp only [Act.put, sA, sB, sC, sD, sE, sF]
    refine wpAnyT_tail (by kernel_rfl) ?_
    simp only [List.drop_succ_cons, List.drop_zero]
    go_upto_region 4 with fail
    clear hHeld hrun2 hlk c5 c6 k1
    have hHeld : (fun w' => w'.cell? ⟨nb, 6, none⟩ = some (.slice (some ⟨b, o, none⟩) N sz) ∧ w'.cell? ⟨t.b, 1, none⟩ = some (strV t.nd.name) ∧ w'.cell? ⟨b, o + qs'.length, none⟩ = some (.map (some q0))) W2.drew := ⟨d6, k2, kc⟩
    refine wp_region_two (fun w' => w'.cell? ⟨nb, 6, none⟩ = some (.slice (some ⟨b, o, none⟩) N sz) ∧ w'.cell? ⟨t.b, 1, none⟩ = some (strV t.nd.name) ∧ w'.cell? ⟨b, o + qs'.length, none⟩ = some (.map (some q0))) 18 (by kernel_rfl) ?_
    refine tk 0 ?_ rfl (by kernel_rfl) (fun _ _ _ h => h) ‹_› (by rfl) ?_ ?_
    rotate_left
    · (intro w' hSw; (try dsimp only at hSw); go_simp; try with_reducible rfl)
    try simp only [Act.put, sA, sB, sC, sD, sE, sF]
    refine tk 1 ?_ rfl (by kernel_rfl) (fun _ _ _ h => h) ‹_› (by rfl) ?_ ?_
    rotate_left
    · (intro w' hSw; (try dsimp only at hSw); go_simp; try with_reducible rfl)
    try simp only [Act.put, sA, sB, sC, sD, sE, sF]
    refine tk 2 ?_ rfl (by kernel_rfl) (fun _ _ _ h => h) ‹_› (by rfl) ?_ ?_
    rotate_left
    · (intro w' hSw; (try dsimp only at hSw); go_simp; try with_reducible rfl)
    try simp only [Act.put, sA, sB, sC, sD, sE, sF]
    refine tk 3 ?_ rfl (by kernel_rfl) (fun _ _ _ h => h) ‹_› (by rfl) ?_ ?_
    rotate_left
    · (intro w' hSw; (try dsimp only at hSw); go_simp; try with_reducible rfl)
    try simp only [Act.put, sA, sB, sC, sD, sE, sF]
    refine tk 4 ?_ rfl (by kernel_rfl) (fun _ _ _ h => h) ‹_› (by rfl) ?_ ?_
    rotate_left
    · (intro w' hSw; (try dsimp only at hSw); go_simp; try with_reducible rfl)
    try simp only [Act.put, sA, sB, sC, sD, sE, sF]
    refine tk 5 ?_ rfl (by kernel_rfl) (fun _ _ _ h => h) ‹_› (by rfl) ?_ ?_
    rotate_left
    · (intro w' hSw; (try dsimp only at hSw); go_simp; try with_reducible rfl)
    try simp only [Act.put, sA, sB, sC, sD, sE, sF]
    refine tk 6 ?_ rfl (by kernel_rfl) (fun _ _ _ h => h) ‹_› (by rfl) ?_ ?_
    rotate_left
    · (intro w' hSw; (try dsimp only at hSw); go_simp; try with_reducible rfl)
    try simp only [Act.put, sA, sB, sC, sD, sE, sF]
    refine tk 7 ?_ rfl (by kernel_rfl) (fun _ _ _ h => h) ‹_› (by rfl) ?_ ?_
    rotate_left
    · (intro w' hSw; (try dsimp only at hSw); go_simp; try with_reducible rfl)
    try simp only [Act.put, sA, sB, sC, sD, sE, sF]
    refine tk 8 ?_ rfl (by kernel_rfl) (fun _ _ _ h => h) ‹_› (by rfl) ?_ ?_
    rotate_left
    · (intro w' hSw; (try dsimp only at hSw); go_simp; try with_reducible rfl)
    try simp only [Act.put, sA, sB, sC, sD, sE, sF]
    refine tk 9 ?_ rfl (by kernel_rfl) (fun _ _ _ h => h) ‹_› (by rfl) ?_ ?_
    rotate_left
    · (intro w' hSw; (try dsimp only at hSw); go_simp; try with_reducible rfl)
    try simp only [Act.put, sA, sB, sC, sD, sE, sF]
    refine tk 10 ?_ rfl (by kernel_rfl) (fun _ _ _ h => h) ‹_› (by rfl) ?_ ?_
    rotate_left
    · (intro w' hSw; (try dsimp only at hSw); go_simp; try with_reducible rfl)
    try simp only [Act.put, sA, sB, sC, sD, sE, sF]
    refine tk 11 ?_ rfl (by kernel_rfl) (fun _ _ _ h => h) ‹_› (by rfl) ?_ ?_
    rotate_left
    · (intro w' hSw; (try dsimp only at hSw); go_simp; try with_reducible rfl)
    try simp only [Act.put, sA, sB, sC, sD, sE, sF]
    refine tk 12 ?_ rfl (by kernel_rfl) (fun _ _ _ h => h) ‹_› (by rfl) ?_ ?_
    rotate_left
    · (intro w' hSw; (try dsimp only at hSw); go_simp; try with_reducible rfl)
    try simp only [Act.put, sA, sB, sC, sD, sE, sF]
    refine tk 13 ?_ rfl (by kernel_rfl) (fun _ _ _ h => h) ‹_› (by rfl) ?_ ?_
    rotate_left
    · (intro w' hSw; (try dsimp only at hSw); go_simp; try with_reducible rfl)
    try simp only [Act.put, sA, sB, sC, sD, sE, sF]
    refine tk 14 ?_ rfl (by kernel_rfl) (fun _ _ _ h => h) ‹_› (by rfl) ?_ ?_
    rotate_left
    · (intro w' hSw; (try dsimp only at hSw); go_simp; try with_reducible rfl)
    try simp only [Act.put, sA, sB, sC, sD, sE, sF]
    refine tk 15 ?_ rfl (by kernel_rfl) (fun _ _ _ h => h) ‹_› (by rfl) ?_ ?_
    rotate_left
    · (intro w' hSw; (try dsimp only at hSw); go_simp; try with_reducible rfl)
    try simp only [Act.put, sA, sB, sC, sD, sE, sF]
    refine tk 16 ?_ rfl (by kernel_rfl) (fun _ _ _ h => h) ‹_› (by rfl) ?_ ?_
    rotate_left
    · (intro w' hSw; (try dsimp only at hSw); go_simp; try with_reducible rfl)
    try simp only [Act.put, sA, sB, sC, sD, sE, sF]
    refine tk 17 ?_ rfl (by kernel_rfl) (fun _ _ _ h => h) ‹_› (by rfl) ?_ ?_
    rotate_left
    · (intro w' hSw; (try dsimp only at hSw); go_simp; try with_reducible rfl)
    try simp only [Act.put, sA, sB, sC, sD, sE, sF]
    refine wpAnyT_tail (by kernel_rfl) ?_
    simp only [List.drop_succ_cons, List.drop_zero]
    go_wp2
    go_ret
    exact ⟨HF3.out, rfl, _, _, _, HS3.out⟩
end Go.Proofs.YtoelmnamlnbdhaaGreatDoor
