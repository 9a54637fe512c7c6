/-
  Part of a proof: contracts of functions that the claim reaches, and plain lemmas.
-/
import Derived.Test.YtihmbbkppkgcmaaGreatDoorKcBH
import Derived.Test.YtihmbbkppkgcmaaGreatDoorKcAT
import Derived.Test.YtihmbbkppkgcmaaGreatDoorKcAY
import Derived.Test.YtihmbbkppkgcmaaGreatDoorKcAM
import Derived.Deep.CutRange
set_option linter.all false
namespace Go.Proofs.YtihmbbkppkgcmaaGreatDoor
open Go.RowKit
structure Fr (D : Nat → Prop) (w w' : World) : Prop where
 os : w'.os = w.os
 tape : w'.tape = w.tape
 output : w'.output = w.output
 size : w.heap.size ≤ w'.heap.size
 block : ∀ i, i < w.heap.size → ¬ D i → w'.heap[i]? = w.heap[i]?
namespace Fr
variable {D D' : Nat → Prop} {w w1 w2 w' : World}
theorem refl (D : Nat → Prop) (w : World) : Fr D w w := ⟨rfl, rfl, rfl, Nat.le_refl _, fun _ _ _ => rfl⟩
theorem trans (h : Fr D w w1) (h' : Fr D w1 w2) : Fr D w w2 :=
 ⟨h'.os.trans h.os, h'.tape.trans h.tape, h'.output.trans h.output, Nat.le_trans h.size h'.size, fun i hi hd => (h'.block i (Nat.lt_of_lt_of_le hi h.size) hd).trans (h.block i hi hd)⟩
theorem imp (h : Fr D w w') (hd : ∀ q, q < w.heap.size → D q → D' q) : Fr D' w w' := ⟨h.os, h.tape, h.output, h.size, fun i hi hn => h.block i hi (fun e => hn (hd i hi e))⟩
theorem of_grown {row : Option Nat} (h : w.grownBy w' row) (hd : ∀ q, row = some q → D q) : Fr D w w' := ⟨h.os, h.tape, h.output, h.size, fun i hi hn => h.block i hi (fun e => hn (hd i e.symm))⟩
theorem of_below (h : Below w.heap.size w w') : Fr D w w' := ⟨h.os, h.tape, h.output, h.size, fun i hi _ => h.block i hi⟩
theorem step (h : Fr D w w1) {row : Option Nat} (h' : w1.grownBy w2 row) (hd : ∀ q, row = some q → D q ∨ w.heap.size ≤ q) : Fr D w w2 :=
 ⟨h'.os.trans h.os, h'.tape.trans h.tape, h'.output.trans h.output, Nat.le_trans h.size h'.size, fun i hi hn => (h'.block i (Nat.lt_of_lt_of_le hi h.size) (fun e => by
  rcases hd i e.symm with h | h
  ·
   exact hn h
  ·
   omega)).trans (h.block i hi hn)⟩
theorem then_ (h : Fr D w w1) (h' : Fr D' w1 w2) (hd : ∀ q, q < w.heap.size → D' q → D q) : Fr D w w2 :=
 ⟨h'.os.trans h.os, h'.tape.trans h.tape, h'.output.trans h.output, Nat.le_trans h.size h'.size, fun i hi hn => (h'.block i (Nat.lt_of_lt_of_le hi h.size) (fun e => hn (hd i hi e))).trans (h.block i hi hn)⟩
theorem set (h : Fr D w w1) {p : Addr} (hp : D p.block ∨ w.heap.size ≤ p.block) (u : Value) : Fr D w (w1.setCell p u) :=
 ⟨h.os, h.tape, h.output, by simpa using h.size, fun i hi hn => (Below.heap_setCell w1 p u i (fun e => by
  rcases hp with hp | hp
  ·
   exact hn (e ▸ hp)
  ·
   omega)).trans (h.block i hi hn)⟩
theorem alloc (h : Fr D w w1) (o : Obj) : Fr D w (w1.alloc o) := h.then_ (D' := fun _ => False) (of_below ((Below.refl _ _).alloc (Nat.le_refl _) o)) (fun _ _ h => h.elim)
theorem drew (h : Fr D w w1) : Fr D w w1.drew := ⟨h.os, h.tape, h.output, h.size, h.block⟩
theorem below (h : Fr D w w') (hd : ∀ q, q < w.heap.size → ¬ D q) : Below w.heap.size w w' := ⟨h.os, h.tape, h.output, h.size, fun i hi => h.block i hi (hd i hi)⟩
theorem at_ (h : Fr D w w') {i : Nat} {o : Obj} (hh : w.heap[i]? = some o) (hd : ¬ D i) : w'.heap[i]? = some o := (h.block i (Array.getElem?_eq_some_iff.1 hh).1 hd).trans hh
theorem cell (h : Fr D w w') {p : Addr} (hp : p.block < w.heap.size) (hd : ¬ D p.block) : w'.cell? p = w.cell? p := World.cell?_of_block (h.block _ hp hd)
end Fr
theorem Sl.fr {D : Nat → Prop} {w w' : World} {B : Nat} {v : Value} {n : Nat} {xs : List Value} (h : Sl w B v n xs) (hB : B ≤ w.heap.size) (hf : Fr D w w') (hd : ∀ q, v.ownBlock = some q → ¬ D q) : Sl w' B v n xs := by
 obtain ⟨a, c, hv, hc⟩ := h
 refine ⟨a, c, hv, fun hn => ?_⟩
 obtain ⟨b, o, ha, hb, hx⟩ := hc hn
 have hnd : ¬ D b := hd b (by rw [hv, ha]; rfl)
 exact ⟨b, o, ha, hb, fun j hj => (hf.cell (p := ⟨b, o + j, none⟩) (Nat.lt_of_lt_of_le hb hB) hnd).trans (hx j hj)⟩
theorem ownsMap_fr {P : Program} {k : TypeId} {R : Value → Option (DataW Value × List MemPlace)} {w w' : World} {b n : Nat} {D : DataW Value} {S : Nat → Prop} (h : w.ownsMap P k R b n D) (hf : Fr S w w') (hb : ¬ S b) : w'.ownsMap P k R b n D := by
 have hlt := h.lt
 obtain ⟨es, clock, hh, F, hs, hD⟩ := h
 exact ⟨es, clock, (hf.block b hlt hb).trans hh, F, hs, hD⟩
theorem Sl.mapAt {α : Type} {f : α → Value} {w : World} {B n c : Nat} {a : Option Addr} {l : List α} (h : Sl w B (.slice a n c) l.length (l.map f)) {k : Nat} (hk : k < l.length) :
 ∃ b o, a = some ⟨b, o, none⟩ ∧ b < B ∧ w.cell? ⟨b, o + k, none⟩ = some (f l[k]) := by
 obtain ⟨a', c', hv, hc⟩ := h
 injection hv with h1 h2 h3
 subst h1
 obtain ⟨b, o, ha, hb, hx⟩ := hc (by simp; omega)
 refine ⟨b, o, ha, hb, ?_⟩
 have := hx k (by simpa using hk)
 simpa using this
theorem NodeAt.lt {w : World} {ids : Nat → Nat} {κ : Nat → Value} {Z : Nat → Prop} {s : GT} (h : NodeAt w ids κ Z s) : s.b < w.heap.size := by
 obtain ⟨a, c, hh, _⟩ := h
 exact (Array.getElem?_eq_some_iff.1 hh).1
theorem NodeAt.fr {D : Nat → Prop} {w w' : World} {ids : Nat → Nat} {κ : Nat → Value} {Z : Nat → Prop} {s : GT} (h : NodeAt w ids κ Z s) (hf : Fr D w w') (h1 : ¬ D s.b) (h2 : ∀ q, Z q → ¬ D q) : NodeAt w' ids κ Z s := by
 obtain ⟨a, c, hh, hs, hz⟩ := h
 exact ⟨a, c, hf.at_ hh h1, (hs.fr (Nat.le_refl _) hf (fun q e => h2 q (hz q e))).more hf.size, hz⟩
def upd {α : Type} (f : Nat → α) (b : Nat) (v : α) : Nat → α := fun i => if i = b then v else f i
theorem upd_same {α : Type} (f : Nat → α) (b : Nat) (v : α) : upd f b v b = v := by simp [upd]
theorem upd_other {α : Type} (f : Nat → α) {b i : Nat} (v : α) (h : i ≠ b) : upd f b v i = f i := by simp [upd, h]
theorem NodeAt.setId {w : World} {ids : Nat → Nat} {κ : Nat → Value} {Z : Nat → Prop} {s : GT} (h : NodeAt w ids κ Z s) {b : Nat} (id : Nat) (hz : ¬ Z b) : NodeAt (w.setCell ⟨b, 9, none⟩ (.int .u64 (id : Int))) (upd ids b id) κ Z s := by
 obtain ⟨a, c, hh, hs, hq⟩ := h
 have hsl := sl_set_ne (p := ⟨b, 9, none⟩) hs (fun e => hz (hq _ e)) (.int .u64 (id : Int))
 refine ⟨a, c, ?_, by simpa using hsl, hq⟩
 by_cases e : s.b = b
 ·
  subst e
  rw [upd_same]
  exact heap_setCell_same hh _
 ·
  rw [upd_other _ _ e]
  exact (Below.heap_setCell w _ _ s.b e).trans hh
theorem NodeAt.setK {w : World} {ids : Nat → Nat} {κ : Nat → Value} {Z : Nat → Prop} {s : GT} (h : NodeAt w ids κ Z s) {b : Nat} (v : Value) (hz : ¬ Z b) : NodeAt (w.setCell ⟨b, 5, none⟩ v) ids (upd κ b v) Z s := by
 obtain ⟨a, c, hh, hs, hq⟩ := h
 have hsl := sl_set_ne (p := ⟨b, 5, none⟩) hs (fun e => hz (hq _ e)) v
 refine ⟨a, c, ?_, by simpa using hsl, hq⟩
 by_cases e : s.b = b
 ·
  subst e
  rw [upd_same]
  exact heap_setCell_same hh _
 ·
  rw [upd_other _ _ e]
  exact (Below.heap_setCell w _ _ s.b e).trans hh
def setN (ids : Nat → Nat) (n : Nat) : List Nat → Nat → Nat
 | [] => ids
 | b :: bs => setN (upd ids b n) (n + 1) bs
theorem setN_append : ∀ (l m : List Nat) (ids : Nat → Nat) (n : Nat), setN ids n (l ++ m) = setN (setN ids n l) (n + l.length) m
 | [], m, ids, n => rfl
 | b :: l, m, ids, n => by
   show setN (upd ids b n) (n + 1) (l ++ m) = setN (setN (upd ids b n) (n + 1) l) (n + (l.length + 1)) m
   rw [setN_append l m, Nat.add_assoc, Nat.add_comm 1]
theorem GT.blocksL_take {l : List GT} {j : Nat} (h : j < l.length) : GT.blocksL (l.take (j + 1)) = GT.blocksL (l.take j) ++ l[j].blocks := by
 rw [List.take_succ_eq_append_getElem h]
 unfold GT.blocksL GT.blocks
 rw [GT.subsL_append, GT.subsL_cons, GT.subsL_nil, List.append_nil, List.map_append]
theorem GT.blocks_len (t : GT) : t.blocks.length = t.subs.length := by simp [GT.blocks]
theorem GT.blocksL_len (l : List GT) : (GT.blocksL l).length = (GT.subsL l).length := by simp [GT.blocksL]
theorem GT.subsL_take_le (l : List GT) (j : Nat) : (GT.blocksL (l.take j)).length ≤ (GT.blocksL l).length := by
 have h : GT.blocksL l = GT.blocksL (l.take j) ++ GT.blocksL (l.drop j) := by
  conv => lhs; rw [← List.take_append_drop j l]
  unfold GT.blocksL
  rw [GT.subsL_append, List.map_append]
 rw [h, List.length_append]
 omega
theorem GT.len_le : ∀ (l : List GT), l.length ≤ (GT.blocksL l).length
 | [] => Nat.zero_le _
 | t :: l => by
   have := GT.len_le l
   rw [GT.blocksL_len] at this ⊢
   rw [GT.subsL_cons, List.length_append, GT.subs_eq]
   simp
   omega
@[reducible] def nmCells (av : Value) (next : Nat) (fv mv cv uv sv : Value) : Array Value := #[av, .int .u64 (next : Int), fv, mv, cv, uv, sv]
def NmAt (w : World) (nb : Nat) (av : Value) (next : Nat) (fv mv cv uv sv : Value) : Prop := w.heap[nb]? = some (.cells (nmCells av next fv mv cv uv sv) 98 (0, 0))
theorem NmAt.lt {w : World} {nb next : Nat} {av fv mv cv uv sv : Value} (h : NmAt w nb av next fv mv cv uv sv) : nb < w.heap.size := (Array.getElem?_eq_some_iff.1 h).1
end Go.Proofs.YtihmbbkppkgcmaaGreatDoor
namespace Go.Proofs.YtihmbbkppkgcmaaGreatDoor
open Go.RowKit
structure Amb (l : List GT) (nb : Nat) (Z : Nat → Prop) : Prop where
 kids : ∀ s ∈ l, ∀ k ∈ s.ks, k ∈ l
 nz : ∀ s ∈ l, ¬ Z s.b
 nbz : ¬ Z nb
 ne : ∀ s ∈ l, s.b ≠ nb
def InB (l : List GT) (nb : Nat) : Nat → Prop := fun q => q = nb ∨ ∃ s ∈ l, q = s.b
set_option maxHeartbeats 4000000 in
set_option maxRecDepth 100000 in
theorem number_any (l : List GT) (nb : Nat) (Z : Nat → Prop) (hA : Amb l nb Z) (κ : Nat → Value) (av fv mv cv uv sv : Value) : ∀ (n : Nat) (t : GT), t ∈ l → t.subs.length ≤ n → ∀ (ids : Nat → Nat) (next : Nat) (w : World), (∀ s ∈ l, NodeAt w ids κ Z s) → NmAt w nb av next fv mv cv uv sv → next + t.subs.length ≤ 1000000 →
 Calls Tryz.prog 38 #[.pointer (some ⟨nb, 0, none⟩), ptrV t] w fun e w' => e = .returned (.tuple #[]) ∧ (∀ s ∈ l, NodeAt w' (setN ids next t.blocks) κ Z s) ∧ NmAt w' nb av (next + t.subs.length) fv mv cv uv sv ∧ Fr (InB l nb) w w' := by
 intro n
 induction n with
 | zero => intro t ht hn; rw [GT.subs_eq] at hn; simp at hn
 | succ n ih =>
   intro t ht hn ids next w hG hM hb
   have hlenk : t.subs.length = (GT.blocksL t.ks).length + 1 := by rw [GT.subs_eq, GT.blocksL_len]; rfl
   have hble : ∀ j, (GT.blocksL (t.ks.take j)).length ≤ (GT.blocksL t.ks).length := GT.subsL_take_le t.ks
   have hkl : t.ks.length ≤ 1000000 := by have := GT.len_le t.ks; omega
   have IH := Lib.hid ih
   obtain ⟨a, c, hh, hsl, hq⟩ := hG t ht
   have hIn : InB l nb t.b := .inr ⟨t, ht, rfl⟩
   have hIn2 : InB l nb nb := .inl rfl
   have hne : ¬ t.b = nb := hA.ne t ht
   have hne2 : ¬ nb = t.b := fun e => hne e.symm
   have hw1 : IntKind.u64.wrap ((next : Int) + 1) = ((next + 1 : Nat) : Int) := by rw [IntWalk.u64_in _ (by omega)]; push_cast; rfl
   have hG2 : ∀ s ∈ l, NodeAt ((w.setCell ⟨t.b, 9, none⟩ (.int .u64 (next : Int))).setCell ⟨nb, 1, none⟩ (.int .u64 ((next + 1 : Nat) : Int))) (upd ids t.b next) κ Z s := fun s hs =>
    ((hG s hs).setId next (hA.nz t ht)).fr (D := fun q => q = nb) ((Fr.refl (fun q => q = nb) _).set (p := ⟨nb, 1, none⟩) (.inl rfl) _) (hA.ne s hs) (fun q hz e => hA.nbz (e ▸ hz))
   have hM2 : NmAt ((w.setCell ⟨t.b, 9, none⟩ (.int .u64 (next : Int))).setCell ⟨nb, 1, none⟩ (.int .u64 ((next + 1 : Nat) : Int))) nb av (next + 1) fv mv cv uv sv := by
    have h1 : (w.setCell ⟨t.b, 9, none⟩ (.int .u64 (next : Int))).heap[nb]? = some (.cells (nmCells av next fv mv cv uv sv) 98 (0, 0)) := (Below.heap_setCell w _ _ nb hne2).trans hM
    exact heap_setCell_same h1 _
   have hF2 : Fr (InB l nb) w ((w.setCell ⟨t.b, 9, none⟩ (.int .u64 (next : Int))).setCell ⟨nb, 1, none⟩ (.int .u64 ((next + 1 : Nat) : Int))) := ((Fr.refl _ _).set (.inl hIn) _).set (.inl hIn2) _
   have c1 := cell_of_row w nb 1 _ _ (0, 0) hM
   have f1 : ∀ i, w.frozen? ⟨nb, i, none⟩ = false := fun i => by simp [World.frozen?, show w.heap[nb]? = _ from hM]
   have c9 := cell_of_row w t.b 9 _ _ (0, 0) hh
   have f9 : ∀ i, w.frozen? ⟨t.b, i, none⟩ = false := fun i => by simp [World.frozen?, hh]
   have c8 := cell_of_row w t.b 8 _ _ (0, 0) hh
   simp at c1 c9 c8
   have HG := Lib.hid hG2
   have HM := Lib.hid hM2
   have HF := Lib.hid hF2
   have HS := Lib.hid (show Sl ((w.setCell ⟨t.b, 9, none⟩ (.int .u64 (next : Int))).setCell ⟨nb, 1, none⟩ (.int .u64 ((next + 1 : Nat) : Int))) w.heap.size (.slice a t.ks.length c) t.ks.length (t.ks.map ptrV) from hsl.fr (Nat.le_refl _) hF2 (fun q e => by
    have hz := hq q e
    rintro (h | ⟨s, hs, h⟩)
    ·
     exact hA.nbz (h ▸ hz)
    ·
     exact hA.nz s hs (h ▸ hz)))
   have hBl : ∃ B, B = w.heap.size ∧ B ≤ ((w.setCell ⟨t.b, 9, none⟩ (.int .u64 (next : Int))).setCell ⟨nb, 1, none⟩ (.int .u64 ((next + 1 : Nat) : Int))).heap.size := ⟨_, rfl, by simp⟩
   have hQ : ∀ q, (Value.slice a t.ks.length c).ownBlock = some q → ¬ InB l nb q := fun q e => by
    have hz := hq q e
    rintro (h | ⟨s, hs, h⟩)
    ·
     exact hA.nbz (h ▸ hz)
    ·
     exact hA.nz s hs (h ▸ hz)
   have HQ := Lib.hid hQ
   obtain ⟨B, hB, hBl⟩ := hBl
   rw [← hB] at HS
   have HB := Lib.hid hBl
   have HA := Lib.hid hA
   have HT := Lib.hid ht
   clear hG hM hh hsl hq hG2 hM2 hF2 hA hIn hIn2 hQ ih hB hBl ht
   go_enter Tryz.func38, Tryz.ntmps38
   go_wp2
   push_cast at HG HM HF HS HB
   generalize World.setCell (World.setCell w _ _) _ _ = w2 at HG HM HF HS HB ⊢
   clear c1 c8 c9 f1 f9
   go_loopw [25] (fun p wr => ∃ j : Nat, p = .int .i64 (j : Int) ∧ j ≤ t.ks.length ∧ (∀ s ∈ l, NodeAt wr (setN (upd ids t.b next) (next + 1) (GT.blocksL (t.ks.take j))) κ Z s) ∧ NmAt wr nb av (next + 1 + (GT.blocksL (t.ks.take j)).length) fv mv cv uv sv ∧ Fr (InB l nb) w2 wr) (fun p wr => t.ks.length - (intOf p).toNat)
   case atStart => exact ⟨0, rfl, Nat.zero_le _, by simpa [GT.blocksL, GT.subsL_nil, setN] using HG.out, by simpa [GT.blocksL, GT.subsL_nil] using HM.out, Fr.refl _ _⟩
   case round =>
    obtain ⟨j, rfl, hj, hGj, hMj, hFj⟩ := hrel
    by_cases hlt : j < t.ks.length
    ·
     have hsj := HS.out.fr HB.out hFj HQ.out
     obtain ⟨b, o, rfl, _, kc⟩ := hsj.mapAt hlt
     have hkm : t.ks[j] ∈ t.ks := List.getElem_mem hlt
     have hk : t.ks[j] ∈ l := HA.out.kids t HT.out _ hkm
     have htk : GT.blocksL (t.ks.take (j + 1)) = GT.blocksL (t.ks.take j) ++ t.ks[j].blocks := GT.blocksL_take hlt
     have hsz : (GT.blocksL (t.ks.take (j + 1))).length = (GT.blocksL (t.ks.take j)).length + t.ks[j].subs.length := by rw [htk, List.length_append, GT.blocks_len]
     have TI := Lib.hid (IH.out t.ks[j] hk (by have := GT.len_lt hkm; omega) _ _ wr hGj hMj (by have := hble (j + 1); omega))
     have HFj := Lib.hid hFj
     have HTK := Lib.hid htk
     have HSZ := Lib.hid hsz
     clear hsj hGj hMj hFj hk hkm htk hsz hble hlenk
     go_wp2_with fail
     refine TI.out.mono ?_
     rintro e w3 ⟨rfl, hG3, hM3, hF3⟩
     have HG3 := Lib.hid hG3
     have HM3 := Lib.hid hM3
     have HF3 := Lib.hid (HFj.out.trans hF3)
     clear hG3 hM3 hF3
     go_wp2
     go_roundw
     case rel =>
      refine ⟨j + 1, by go_num, by omega, ?_, ?_, HF3.out⟩
      ·
       rw [HTK.out, setN_append]; exact HG3.out
      ·
       rw [HSZ.out, ← Nat.add_assoc]; exact HM3.out
     case measure => simp [intOf]; omega
    ·
     obtain rfl : j = t.ks.length := by omega
     rw [List.take_length] at hGj hMj
     have HGj := Lib.hid hGj
     have HMj := Lib.hid hMj
     have HFj := Lib.hid (HF.out.trans hFj)
     have HL := Lib.hid hlenk
     clear hGj hMj hFj hlenk hble
     go_wp2
     go_end0
     refine ⟨rfl, ?_, ?_, HFj.out⟩
     ·
      rw [GT.blocks_eq]; exact HGj.out
     ·
      rw [HL.out, Nat.add_comm _ 1, ← Nat.add_assoc]; exact HMj.out
end Go.Proofs.YtihmbbkppkgcmaaGreatDoor
namespace Go.Proofs.YtihmbbkppkgcmaaGreatDoor
open Go.RowKit
theorem alloc3 (w : World) (o1 o2 o3 : Obj) : (((w.alloc o1).alloc o2).alloc o3).heap[w.heap.size]? = some o1 ∧ (((w.alloc o1).alloc o2).alloc o3).heap[w.heap.size + 1]? = some o2 ∧ (((w.alloc o1).alloc o2).alloc o3).heap[w.heap.size + 2]? = some o3 ∧
 Below w.heap.size w (((w.alloc o1).alloc o2).alloc o3) ∧ (((w.alloc o1).alloc o2).alloc o3).heap.size = w.heap.size + 3 := by
 have h1 := heap_alloc2_old w o1 o2
 have h2 := heap_alloc2_new w o1 o2
 have h3 := heap_alloc_new ((w.alloc o1).alloc o2) o3
 refine ⟨(heap_alloc_old ((w.alloc o1).alloc o2) o3 (by simp; omega)).trans h1, (heap_alloc_old ((w.alloc o1).alloc o2) o3 (by simp)).trans h2, ?_, (((Below.refl _ _).alloc (Nat.le_refl _) _).alloc (by simp) _).alloc (by simp; omega) _, by simp⟩
 simpa using h3
theorem cell_set_ne {w : World} {p q : Addr} (h : ¬ p.block = q.block) (u : Value) : (w.setCell p u).cell? q = w.cell? q := World.cell?_of_block (Below.heap_setCell w p u q.block (fun e => h e.symm))
def numNode (n : Nat) : Hg.Node := ⟨13, [], (n : Int), 0, 0, []⟩
def PaRes (w : World) (pb : Nat) (L : List Hg.Tok) (k : Nat) (sh : GT → Prop) (e : Ending) (w' : World) : Prop :=
 ∃ t, e = .returned (ptrV t) ∧ sh t ∧ ForestIn w.heap.size w' [t] ∧ PaAt w' pb L k ∧ w.grownBy w' (some pb)
set_option maxHeartbeats 4000000 in
set_option maxRecDepth 100000 in
theorem expr_num (pb k : Nat) (L : List Hg.Tok) (n : Nat) (w : World) (hP : PaAt w pb L k) (hk : k < L.length) (hL : L.length ≤ 1000000) (h2 : (tkAt L k).kind = 2) (hn : n < 10) (ht : (tkAt L k).text = [UInt8.ofNat (48 + n)]) :
 Calls Tryz.prog 103 #[.pointer (some ⟨pb, 0, none⟩)] w (PaRes w pb L (k + 1) (fun t => t.nd = numNode n ∧ t.ks = [])) := by
 have hlt := hP.lt
 have HP := Lib.hid hP
 have hw1 : IntKind.i64.wrap ((k : Int) + 1) = (k : Int) + 1 := IntWalk.i64_in _ (by omega)
 have TNow := Lib.hid (fun W (h : PaAt W pb L k) => now_any pb k L W h hk hL)
 have TV := Lib.hid (fun W => value_any (tkAt L k) n hn ht h2 W)
 have hq2 : (((tkAt L k).kind : Int) == 2) = true := by simp [h2]
 generalize tkAt L k = t at TNow TV hq2
 clear hP h2 ht
 go_enter Tryz.func103, Tryz.ntmps103
 go_wp2_with fail
 obtain ⟨g0, g1, g2, hbA, hzA⟩ := alloc3 w (.cells #[.pointer (some ⟨pb, 0, none⟩)] 87) (.cells (gtCells Hg.Node.zero (.slice none 0 0) (.slice none 0 0) 0) 130) (.cells #[.pointer (some ⟨w.heap.size + 1, 0, none⟩)] 90)
 refine (TNow.out _ (HP.out.keep (hbA.mono hlt))).mono ?_
 generalize World.alloc (World.alloc (World.alloc w _) _) _ = WA at g0 g1 g2 hbA hzA ⊢
 rintro e w1 ⟨rfl, hb1⟩
 have r0 := (hb1.block w.heap.size (by omega)).trans g0
 have r1 := (hb1.block (w.heap.size + 1) (by omega)).trans g1
 have r2 := (hb1.block (w.heap.size + 2) (by omega)).trans g2
 have hbw := hbA.trans (hb1.mono hbA.size)
 have hz1 := hb1.size
 have hP1 := HP.out.keep (hbw.mono hlt)
 obtain ⟨a, c, c0, c1, c2, c3, f0, hsl⟩ := hP1.read
 have x0 : w1.cell? ⟨w.heap.size, 0, none⟩ = some (.pointer (some ⟨pb, 0, none⟩)) := cell_of_row w1 w.heap.size 0 _ _ (0, 0) r0
 have hx0 : w.heap.size < w1.heap.size := by omega
 have hxp : pb < w1.heap.size := by omega
 have hne : ¬ w1.heap.size = pb := by omega
 have hne2 : ¬ pb = w1.heap.size := by omega
 have hE1 : PaAt ((w1.setCell ⟨pb, 1, none⟩ (.int .i64 ((k + 1 : Nat) : Int))).alloc (.cells #[.int .u8 (t.kind : Int), strV t.text, .int .i64 (t.pos : Int)] 126)) pb L (k + 1) := (hP1.set (j := k + 1)).keep ((Below.refl _ _).alloc (by simp; omega) _)
 have hE2 : w.grownBy ((w1.setCell ⟨pb, 1, none⟩ (.int .i64 ((k + 1 : Nat) : Int))).alloc (.cells #[.int .u8 (t.kind : Int), strV t.text, .int .i64 (t.pos : Int)] 126)) (some pb) := grown_below (grown_set (below_grown50 hbw (some pb)) 1 _) ((Below.refl _ _).alloc (Nat.le_refl _) _)
 have hEs : ∀ i o, i ≠ pb → w1.heap[i]? = some o → ((w1.setCell ⟨pb, 1, none⟩ (.int .i64 ((k + 1 : Nat) : Int))).alloc (.cells #[.int .u8 (t.kind : Int), strV t.text, .int .i64 (t.pos : Int)] 126)).heap[i]? = some o := by
  intro i o hi h
  have hl : i < w1.heap.size := (Array.getElem?_eq_some_iff.1 h).1
  exact (heap_alloc_old _ _ (by simpa using hl)).trans ((Below.heap_setCell w1 ⟨pb, 1, none⟩ _ i (by simpa using hi)).trans h)
 have e1 := hEs _ _ (by omega) r1
 have e2 := hEs _ _ (by omega) r2
 have e3 : ((w1.setCell ⟨pb, 1, none⟩ (.int .i64 ((k + 1 : Nat) : Int))).alloc (.cells #[.int .u8 (t.kind : Int), strV t.text, .int .i64 (t.pos : Int)] 126)).heap[w1.heap.size]? = some (.cells #[.int .u8 (t.kind : Int), strV t.text, .int .i64 (t.pos : Int)] 126 (0, 0)) := by
  have := heap_alloc_new (w1.setCell ⟨pb, 1, none⟩ (.int .i64 ((k + 1 : Nat) : Int))) (.cells #[.int .u8 (t.kind : Int), strV t.text, .int .i64 (t.pos : Int)] 126)
  simpa using this
 have htb : w.heap.size + 2 < w1.heap.size := by omega
 clear hsl hP1 hEs g0 g1 g2 hbA hzA hb1 r0 r1 r2
 go_upto_region 6 with fail
 have HPE := Lib.hid hE1
 have HGE := Lib.hid hE2
 have hzE : ((w1.setCell ⟨pb, 1, none⟩ (.int .i64 ((k + 1 : Nat) : Int))).alloc (.cells #[.int .u8 (t.kind : Int), strV t.text, .int .i64 (t.pos : Int)] 126)).heap.size = w1.heap.size + 1 := by simp
 clear hE1 hE2 c0 c1 c2 c3 f0 x0 hx0 hxp hne hne2
 generalize w1.heap.size = tb at e3 htb hzE ⊢
 push_cast at HPE HGE e1 e2 e3 hzE
 generalize World.alloc (World.setCell w1 _ _) _ = W3 at HPE HGE e1 e2 e3 hzE ⊢
 have hHeld : (fun w' => w'.cell? ⟨w.heap.size + 1 + 1, 0, none⟩ = some (.pointer (some ⟨w.heap.size + 1, 0, none⟩)) ∧ w'.cell? ⟨tb, 0, none⟩ = some (.int .u8 (t.kind : Int)) ∧ w'.cell? ⟨tb, 1, none⟩ = some (strV t.text) ∧ w'.cell? ⟨tb, 2, none⟩ = some (.int .i64 (t.pos : Int))) W3.drew := ⟨cell_of_row W3 (w.heap.size + 2) 0 _ _ (0, 0) e2, cell_of_row W3 tb 0 _ _ (0, 0) e3, cell_of_row W3 tb 1 _ _ (0, 0) e3, cell_of_row W3 tb 2 _ _ (0, 0) e3⟩
 have hnt : ¬ w.heap.size + 1 = tb := by omega
 have hnt2 : ¬ tb = w.heap.size + 1 := by omega
 refine wp_region_two (fun w' => w'.cell? ⟨w.heap.size + 1 + 1, 0, none⟩ = some (.pointer (some ⟨w.heap.size + 1, 0, none⟩)) ∧ w'.cell? ⟨tb, 0, none⟩ = some (.int .u8 (t.kind : Int)) ∧ w'.cell? ⟨tb, 1, none⟩ = some (strV t.text) ∧ w'.cell? ⟨tb, 2, none⟩ = some (.int .i64 (t.pos : Int))) 11 (by kernel_rfl) ?_
 refine tk 0 ?_ rfl (by kernel_rfl) (fun _ _ _ h => h) ‹_› ?_ ?_ (tk 1 ?_ rfl (by kernel_rfl) (fun _ _ _ h => h) ‹_› ?_ ?_ (tk 2 ?_ rfl (by kernel_rfl) (fun _ _ _ h => h) ‹_› ?_ ?_ ?_))
 all_goals try (first | rfl | ((try simp only [Act.put, sA, sB, sC]); intro w' hSw; (try dsimp only at hSw); go_simp; try with_reducible rfl))
 try simp only [Act.put, sA, sB, sC]
 refine wpAnyT_one (i := 3) rfl (by kernel_rfl) (fun K hK => ?_)
 go_simp
 refine (TV.out W3.drew).mono ?_
 rintro e w4 ⟨rfl, hb4⟩
 have r1 := (hb4.block (w.heap.size + 1) (by show w.heap.size + 1 < W3.heap.size; omega)).trans e1
 have hP4 := Lib.hid (HPE.out.keep (((Below.refl (pb + 1) W3).drew).trans (hb4.mono (by show pb + 1 ≤ W3.heap.size; omega))))
 have hG4 := Lib.hid (grown_below (w1 := W3.drew) (show w.grownBy W3.drew (some pb) from ⟨HGE.out.os, HGE.out.tape, HGE.out.output, HGE.out.size, HGE.out.block⟩) hb4)
 have z0 : w4.cell? ⟨w.heap.size + 1, 0, none⟩ = some (.int .u8 0) := cell_of_row w4 (w.heap.size + 1) 0 _ _ (0, 0) r1
 have z2 : w4.cell? ⟨w.heap.size + 1, 2, none⟩ = some (.int .i64 0) := cell_of_row w4 (w.heap.size + 1) 2 _ _ (0, 0) r1
 have zf : ∀ i, w4.frozen? ⟨w.heap.size + 1, i, none⟩ = false := fun i => by simp [World.frozen?, r1]
 have HR1 := Lib.hid r1
 clear r1
 refine hK.out _ _ (⟨below_cell hb4 (Nat.le_refl _) hHeld.1, below_cell hb4 (Nat.le_refl _) hHeld.2.1, below_cell hb4 (Nat.le_refl _) hHeld.2.2.1, below_cell hb4 (Nat.le_refl _) hHeld.2.2.2⟩) (fun hHeld => ?_)
 clear hK K
 try simp only [Act.put, sA, sB, sC]
 refine tk 4 ?_ rfl (by kernel_rfl) (fun _ _ _ h => h) ‹_› ?_ ?_ (tk 5 ?_ rfl (by kernel_rfl) (fun _ _ _ h => h) ‹_› ?_ ?_ (tk 6 ?_ rfl (by kernel_rfl) (fun _ _ _ h => h) ‹_› ?_ ?_ ?_))
 all_goals try (first | rfl | ((try simp only [Act.put, sA, sB, sC]); intro w' hSw; (try dsimp only at hSw); go_simp; try with_reducible rfl))
 try simp only [Act.put, sA, sB, sC]
 refine wpAnyT_one (i := 7) rfl (by kernel_rfl) (fun K hK => ?_)
 go_simp
 refine hK.out _ _ (⟨(cell_set_ne (by simp) _).trans hHeld.1, (cell_set_ne (by simpa using hnt) _).trans hHeld.2.1, (cell_set_ne (by simpa using hnt) _).trans hHeld.2.2.1, (cell_set_ne (by simpa using hnt) _).trans hHeld.2.2.2⟩) (fun hHeld => ?_)
 clear hK K
 try simp only [Act.put, sA, sB, sC]
 refine tk 8 ?_ rfl (by kernel_rfl) (fun _ _ _ h => h) ‹_› ?_ ?_ (tk 9 ?_ rfl (by kernel_rfl) (fun _ _ _ h => h) ‹_› ?_ ?_ (tk 10 ?_ rfl (by kernel_rfl) (fun _ _ _ h => h) ‹_› ?_ ?_ ?_))
 all_goals try (first | rfl | ((try simp only [Act.put, sA, sB, sC]); intro w' hSw; (try dsimp only at hSw); go_simp; try with_reducible rfl))
 try simp only [Act.put, sA, sB, sC]
 refine wpAnyT_tail (by kernel_rfl) ?_
 simp only [List.drop_succ_cons, List.drop_zero]
 obtain ⟨s1, s2, s3, s4⟩ := hHeld
 have hne3 : ¬ w.heap.size + 1 + 1 = w.heap.size + 1 := by omega
 have hpne : ¬ pb = w.heap.size + 1 := by omega
 go_wp2
 go_ret
 refine ⟨GT.mk (w.heap.size + 1) (numNode n) [], rfl, ⟨rfl, rfl⟩, ?_, (hP4.out.keep ?_), ?_⟩
 ·
  refine ForestX.down (lo := w.heap.size + 1) ?_ (by omega)
  refine ForestX.over (lo := w.heap.size + 2) (a := none) (c := 0) (ForestX.nil (fun _ => False) _ _) (by omega) ?_ (Sl.nil _ _) (fun q e => by cases e) (fun _ h => h.elim)
  exact heap_setCell_same (heap_setCell_same HR1.out _) _
 ·
  exact ((Below.refl (pb + 1) w4).setCell (p := ⟨w.heap.size + 1, 0, none⟩) (by show pb + 1 ≤ w.heap.size + 1; omega) _).setCell (p := ⟨w.heap.size + 1, 2, none⟩) (by show pb + 1 ≤ w.heap.size + 1; omega) _
 ·
  exact grown_set_new (grown_set_new hG4.out (p := ⟨w.heap.size + 1, 0, none⟩) (by show w.heap.size ≤ w.heap.size + 1; omega) _) (p := ⟨w.heap.size + 1, 2, none⟩) (by show w.heap.size ≤ w.heap.size + 1; omega) _
end Go.Proofs.YtihmbbkppkgcmaaGreatDoor
namespace Go.Proofs.YtihmbbkppkgcmaaGreatDoor
open Go.RowKit
theorem grown_at {W W' : World} {r i : Nat} {o : Obj} (hg : W.grownBy W' (some r)) (h : W.heap[i]? = some o) (hi : i ≠ r) : W'.heap[i]? = some o :=
 (hg.block i (Array.getElem?_eq_some_iff.1 h).1 (fun e => by injection e with e; exact hi e)).trans h
theorem want1 (pb : Nat) (L : List Hg.Tok) (hL : L.length ≤ 1000000) (k : Nat) (s : List UInt8) (W : World) (B : Nat) (hB : W.heap.size = B) (hP : PaAt W pb L k) (hk : k < L.length) (h : tkIs L k s = true) :
 Calls Tryz.prog 58 #[.pointer (some ⟨pb, 0, none⟩), .slice (some ⟨B, 0, none⟩) 1 1] (W.alloc (.cells #[strV s] 9)) fun e w' => e = .returned (.tuple #[]) ∧ PaAt w' pb L (k + 1) ∧ W.grownBy w' (some pb) := by
 subst hB
 have hlt := hP.lt
 have hs := Sl.new W 9 1 (#[strV s])
 refine (want_any pb L hL k (.slice (some ⟨W.heap.size, 0, none⟩) 1 1) [s] (W.alloc (.cells #[strV s] 9)) (hP.keep ((Below.refl _ _).alloc (by omega) _)) (by simpa using hs) (by simp [Value.ownBlock]; omega) (by simp; omega) (fun j hj => ?_)).mono ?_
 ·
  have : j = 0 := by simp at hj; exact hj
  subst this
  exact h
 ·
  rintro e w' ⟨rfl, hp, hg⟩
  exact ⟨rfl, hp, grown_trans (World.grownBy_alloc W _ _) hg⟩
theorem want2 (pb : Nat) (L : List Hg.Tok) (hL : L.length ≤ 1000000) (k : Nat) (s t : List UInt8) (W : World) (B : Nat) (hB : W.heap.size = B) (hP : PaAt W pb L k) (hk : k + 1 < L.length) (h : tkIs L k s = true) (h2 : tkIs L (k + 1) t = true) :
 Calls Tryz.prog 58 #[.pointer (some ⟨pb, 0, none⟩), .slice (some ⟨B, 0, none⟩) 2 2] (W.alloc (.cells #[strV s, strV t] 9)) fun e w' => e = .returned (.tuple #[]) ∧ PaAt w' pb L (k + 2) ∧ W.grownBy w' (some pb) := by
 subst hB
 have hlt := hP.lt
 have hs := Sl.new W 9 2 (#[strV s, strV t])
 refine (want_any pb L hL k (.slice (some ⟨W.heap.size, 0, none⟩) 2 2) [s, t] (W.alloc (.cells #[strV s, strV t] 9)) (hP.keep ((Below.refl _ _).alloc (by omega) _)) (by simpa using hs) (by simp [Value.ownBlock]; omega) (by simp; omega) (fun j hj => ?_)).mono ?_
 ·
  have : j = 0 ∨ j = 1 := by simp at hj; omega
  rcases this with rfl | rfl
  ·
   exact h
  ·
   exact h2
 ·
  rintro e w' ⟨rfl, hp, hg⟩
  exact ⟨rfl, hp, grown_trans (World.grownBy_alloc W _ _) hg⟩
structure FuncAt (L : List Hg.Tok) (k : Nat) (name : List UInt8) (n : Nat) : Prop where
 len : k + 10 ≤ L.length
 t0 : tkIs L k Hg.wFunc = true
 k1 : (tkAt L (k + 1)).kind = 1
 n1 : (tkAt L (k + 1)).text = name
 t2 : tkIs L (k + 2) [40] = true
 t3 : tkIs L (k + 3) [41] = true
 t4 : tkIs L (k + 4) Hg.wInt = true
 t5 : tkIs L (k + 5) [123] = true
 t6 : tkIs L (k + 6) Hg.wReturn = true
 k7 : (tkAt L (k + 7)).kind = 2
 n10 : n < 10
 n7 : (tkAt L (k + 7)).text = [UInt8.ofNat (48 + n)]
 t8 : tkIs L (k + 8) [59] = true
 t9 : tkIs L (k + 9) [125] = true
def FuncSh (name : List UInt8) (n : Nat) (t : GT) : Prop :=
 t.nd = ⟨3, name, 0, 1, 0, []⟩ ∧ ∃ b0 r i, t.ks = [b0] ∧ b0.nd = Hg.Rd.nd 5 ∧ b0.ks = [r] ∧ r.nd = Hg.Rd.nd 10 ∧ r.ks = [i] ∧ i.nd = numNode n ∧ i.ks = []
structure FnSt (w : World) (pb : Nat) (L : List Hg.Tok) (fb : Nat) (nd : Hg.Node) (W : World) (k : Nat) : Prop where
 pa : PaAt W pb L k
 gr : w.grownBy W (some pb)
 lo : pb < w.heap.size
 fl : w.heap.size < fb
 sz : fb + 1 < W.heap.size
 box : W.heap[w.heap.size]? = some (.cells #[.pointer (some ⟨pb, 0, none⟩)] 87 (0, 0))
 f : W.heap[fb]? = some (.cells (gtCells nd (.slice none 0 0) (.slice none 0 0) 0) 130 (0, 0))
 fp : W.heap[fb + 1]? = some (.cells #[.pointer (some ⟨fb, 0, none⟩)] 90 (0, 0))
theorem FnSt.go {w W W' : World} {pb fb k k' : Nat} {L : List Hg.Tok} {nd : Hg.Node} (h : FnSt w pb L fb nd W k) (hg : W.grownBy W' (some pb)) (hp : PaAt W' pb L k') : FnSt w pb L fb nd W' k' :=
 ⟨hp, grown_trans h.gr hg, h.lo, h.fl, Nat.lt_of_lt_of_le h.sz hg.size, grown_at hg h.box (by have := h.lo; omega), grown_at hg h.f (by have := h.lo; have := h.fl; omega), grown_at hg h.fp (by have := h.lo; have := h.fl; omega)⟩
theorem FnSt.new {w W W' : World} {pb fb k : Nat} {L : List Hg.Tok} {nd : Hg.Node} (h : FnSt w pb L fb nd W k) (hb : Below W.heap.size W W') : FnSt w pb L fb nd W' k := h.go (below_grown50 hb _) (h.pa.keep (hb.mono h.pa.lt))
theorem FnSt.cells {w W : World} {pb fb k : Nat} {L : List Hg.Tok} {nd : Hg.Node} (h : FnSt w pb L fb nd W k) :
 W.cell? ⟨w.heap.size, 0, none⟩ = some (.pointer (some ⟨pb, 0, none⟩)) ∧ W.cell? ⟨fb + 1, 0, none⟩ = some (.pointer (some ⟨fb, 0, none⟩)) ∧ W.cell? ⟨fb, 8, none⟩ = some (.slice none 0 0) ∧ W.cell? ⟨fb, 3, none⟩ = some (.int .u8 (nd.type : Int)) ∧ (∀ i, W.frozen? ⟨fb, i, none⟩ = false) :=
 ⟨cell_of_row W _ 0 _ _ (0, 0) h.box, cell_of_row W _ 0 _ _ (0, 0) h.fp, cell_of_row W fb 8 _ _ (0, 0) h.f, cell_of_row W fb 3 _ _ (0, 0) h.f, fun i => by simp [World.frozen?, h.f]⟩
theorem FnSt.set {w W : World} {pb fb k : Nat} {L : List Hg.Tok} {name : List UInt8} (h : FnSt w pb L fb ⟨3, name, 0, 0, 0, []⟩ W k) : FnSt w pb L fb ⟨3, name, 0, 1, 0, []⟩ (W.setCell ⟨fb, 3, none⟩ (.int .u8 1)) k := by
 have h1 := h.lo
 have h2 := h.fl
 exact ⟨h.pa.keep ((Below.refl _ _).setCell (p := ⟨fb, 3, none⟩) (by show pb + 1 ≤ fb; omega) _), grown_set_new h.gr (p := ⟨fb, 3, none⟩) (by show w.heap.size ≤ fb; omega) _, h1, h2, by simpa using h.sz,
  (Below.heap_setCell W ⟨fb, 3, none⟩ _ w.heap.size (by show ¬ w.heap.size = fb; omega)).trans h.box, heap_setCell_same h.f _, (Below.heap_setCell W ⟨fb, 3, none⟩ _ (fb + 1) (by show ¬ fb + 1 = fb; omega)).trans h.fp⟩
theorem FnSt.mk0 {w w2 : World} {pb k : Nat} {L : List Hg.Tok} (name : List UInt8) (hp : PaAt w2 pb L k) (hg : w.grownBy w2 (some pb)) (hlt : pb < w.heap.size) (hl2 : w.heap.size < w2.heap.size) (h0 : w2.heap[w.heap.size]? = some (.cells #[.pointer (some ⟨pb, 0, none⟩)] 87 (0, 0))) :
 FnSt w pb L w2.heap.size ⟨3, name, 0, 0, 0, []⟩ ((w2.alloc (.cells (gtCells ⟨3, name, 0, 0, 0, []⟩ (.slice none 0 0) (.slice none 0 0) 0) 130)).alloc (.cells #[.pointer (some ⟨w2.heap.size, 0, none⟩)] 90)) k := by
 have hb : Below w2.heap.size w2 ((w2.alloc (.cells (gtCells ⟨3, name, 0, 0, 0, []⟩ (.slice none 0 0) (.slice none 0 0) 0) 130)).alloc (.cells #[.pointer (some ⟨w2.heap.size, 0, none⟩)] 90)) := ((Below.refl _ _).alloc (Nat.le_refl _) _).alloc (by simp) _
 exact ⟨hp.keep (hb.mono hp.lt), grown_below hg hb, hlt, hl2, by simp, (hb.block _ hl2).trans h0, heap_alloc2_old w2 _ _, heap_alloc2_new w2 _ _⟩
structure BkSt (w : World) (pb : Nat) (L : List Hg.Tok) (fb : Nat) (nd : Hg.Node) (bb : Nat) (W : World) (k : Nat) : Prop where
 st : FnSt w pb L fb nd W k
 lt : fb + 1 < bb
 b : W.heap[bb]? = some (.cells (gtCells (Hg.Rd.nd 5) (.slice none 0 0) (.slice none 0 0) 0) 130 (0, 0))
theorem BkSt.go {w W W' : World} {pb fb bb k k' : Nat} {L : List Hg.Tok} {nd : Hg.Node} (h : BkSt w pb L fb nd bb W k) (hg : W.grownBy W' (some pb)) (hp : PaAt W' pb L k') : BkSt w pb L fb nd bb W' k' :=
 ⟨h.st.go hg hp, h.lt, grown_at hg h.b (by have := h.lt; have := h.st.fl; have := h.st.lo; omega)⟩
theorem BkSt.new {w W W' : World} {pb fb bb k : Nat} {L : List Hg.Tok} {nd : Hg.Node} (h : BkSt w pb L fb nd bb W k) (hb : Below W.heap.size W W') : BkSt w pb L fb nd bb W' k := h.go (below_grown50 hb _) (h.st.pa.keep (hb.mono h.st.pa.lt))
theorem BkSt.sz {w W : World} {pb fb bb k : Nat} {L : List Hg.Tok} {nd : Hg.Node} (h : BkSt w pb L fb nd bb W k) : bb < W.heap.size := (Array.getElem?_eq_some_iff.1 h.b).1
theorem BkSt.cells {w W : World} {pb fb bb k : Nat} {L : List Hg.Tok} {nd : Hg.Node} (h : BkSt w pb L fb nd bb W k) : W.cell? ⟨w.heap.size, 0, none⟩ = some (.pointer (some ⟨pb, 0, none⟩)) ∧ W.cell? ⟨bb, 8, none⟩ = some (.slice none 0 0) ∧ (∀ i, W.frozen? ⟨bb, i, none⟩ = false) :=
 ⟨h.st.cells.1, cell_of_row W bb 8 _ _ (0, 0) h.b, fun i => by simp [World.frozen?, h.b]⟩
theorem new_alloc {W W' : World} {o : Obj} (h : W.alloc o = W') : Below W.heap.size W W' ∧ W'.heap[W.heap.size]? = some o ∧ W'.heap.size = W.heap.size + 1 := by
 subst h
 exact ⟨(Below.refl _ _).alloc (Nat.le_refl _) _, heap_alloc_new W o, by simp⟩
theorem cells_at {w : World} {b : Nat} {u : Value} {t : TypeId} (h : w.heap[b]? = some (.cells #[u] t (0, 0))) : ∀ j x, [u][j]? = some x → w.cell? ((⟨b, 0, none⟩ : Addr).add j) = some x := by
 intro j x hj
 have hadd : (⟨b, 0, none⟩ : Addr).add j = ⟨b, j, none⟩ := by unfold Addr.add; split <;> simp_all
 rw [hadd, cell_of_row w b j #[u] t (0, 0) h]
 simpa using hj
theorem sl_one {w : World} {b : Nat} {u : Value} {t : TypeId} (h : w.heap[b]? = some (.cells #[u] t (0, 0))) : Sl w w.heap.size (.slice (some ⟨b, 0, none⟩) 1 1) 1 [u] := by
 refine ⟨_, _, rfl, fun _ => ⟨b, 0, rfl, (Array.getElem?_eq_some_iff.1 h).1, fun j hj => ?_⟩⟩
 rw [cell_of_row w b (0 + j) #[u] t (0, 0) h]
 have : j = 0 := by simpa using hj
 subst this
 rfl
theorem FnSt.setAbove {w W : World} {pb fb k : Nat} {L : List Hg.Tok} {nd : Hg.Node} (h : FnSt w pb L fb nd W k) {p : Addr} (hp : fb + 1 < p.block) (v : Value) : FnSt w pb L fb nd (W.setCell p v) k := by
 have h1 := h.lo
 have h2 := h.fl
 exact ⟨h.pa.keep ((Below.refl _ _).setCell (by omega) _), grown_set_new h.gr (by omega) _, h1, h2, by simpa using h.sz,
  (Below.heap_setCell W p _ w.heap.size (by omega)).trans h.box, (Below.heap_setCell W p _ fb (by omega)).trans h.f, (Below.heap_setCell W p _ (fb + 1) (by omega)).trans h.fp⟩
theorem treeInfo : (Tryz.prog.info? 90).map (fun i => (i.zero, i.size, i.bytes)) = some (some (.pointer none), 1, 8) := by kernel_rfl
theorem put_over {lo b : Nat} {Wd W3 : World} {t : GT} {n : Hg.Node} {v3 : Value} (h : ForestIn lo Wd [t]) (hb : b < lo) (hlo : lo ≤ Wd.heap.size) (hh : W3.heap[b]? = some (.cells (gtCells n (.slice none 0 0) (.slice none 0 0) 0) 130 (0, 0)))
 (own3 : W3.ownsRow Wd.heap.size 90 1 v3 1 [ptrV t]) (g3 : Wd.grownBy W3 none) : ForestIn b (W3.setCell ⟨b, 8, none⟩ v3) [.mk b n [t]] := by
 have hold := h.lt
 have h3 := h.keep g3 (fun q e => by cases e)
 have hg4 : W3.grownBy (W3.setCell ⟨b, 8, none⟩ v3) (some b) := grown_set (grown_refl _ _) 8 v3
 have h4 := h3.keep hg4 (fun q e => by injection e with e; exact .inl (by omega))
 obtain ⟨g, c, rfl⟩ := ownsRow_succ own3
 have hge : Wd.heap.size ≤ g ∧ g < W3.heap.size := by
  obtain ⟨_, h2⟩ := own3
  rcases h2 with ⟨h0, _⟩ | ⟨g', cap', cur, hv, hg, hh, _⟩
  ·
   cases h0
  ·
   cases hv
   exact ⟨hg, (Array.getElem?_eq_some_iff.1 hh).1⟩
 have hs := sl_set_ne (p := ⟨b, 8, none⟩) (Sl.of_own own3) (fun e => by injection e with e; simp at e; omega) (.slice (some ⟨g, 0, none⟩) 1 c)
 refine ForestX.over h4 hb (heap_setCell_same hh _) (by simpa using hs) (fun q e => ?_) (fun _ h => h.elim)
 injection e with e
 have e : g = q := e
 subst e
 exact ⟨by omega, by simpa using hge.2, fun hm => by have := hold g hm; omega, fun h => h⟩
set_option maxHeartbeats 8000000 in
set_option maxRecDepth 100000 in
theorem func_any (pb k : Nat) (L : List Hg.Tok) (name : List UInt8) (n : Nat) (w : World) (hP : PaAt w pb L k) (hL : L.length ≤ 1000000) (hF : FuncAt L k name n) :
 Calls Tryz.prog 61 #[.pointer (some ⟨pb, 0, none⟩)] w (PaRes w pb L (k + 10) (FuncSh name n)) := by
 have hlt := hP.lt
 have hlen := hF.len
 have HP := Lib.hid hP
 have HF := Lib.hid hF
 have hPa : PaAt (w.alloc (.cells #[.pointer (some ⟨pb, 0, none⟩)] 87)) pb L k := hP.keep ((Below.refl _ _).alloc (by omega) _)
 have hgA : w.grownBy (w.alloc (.cells #[.pointer (some ⟨pb, 0, none⟩)] 87)) (some pb) := World.grownBy_alloc w _ _
 have hbA := heap_alloc_new w (.cells #[.pointer (some ⟨pb, 0, none⟩)] 87)
 have hzA : (w.alloc (.cells #[.pointer (some ⟨pb, 0, none⟩)] 87)).heap.size = w.heap.size + 1 := by simp
 have T1 := Lib.hid (want1 pb L hL k Hg.wFunc _ _ hzA hPa (by omega) HF.out.t0)
 clear hP hF hPa
 go_enter Tryz.func61, Tryz.ntmps61
 go_wp2_with fail
 generalize World.alloc w _ = WA at hgA hbA hzA T1 ⊢
 refine T1.out.mono ?_
 rintro e w1 ⟨rfl, hp1, hg1⟩
 have hg1w := Lib.hid (grown_trans hgA hg1)
 have e0 := grown_at hg1 hbA (by omega)
 have hz1 := hg1.size
 have T2 := Lib.hid (name_any pb (k + 1) L w1 hp1 (by omega) hL HF.out.k1)
 have c0 : w1.cell? ⟨w.heap.size, 0, none⟩ = some (.pointer (some ⟨pb, 0, none⟩)) := cell_of_row w1 w.heap.size 0 _ _ (0, 0) e0
 clear T1 hp1 hg1 hgA hbA
 go_wp2_with fail
 refine T2.out.mono ?_
 rintro e w2 ⟨rfl, hp2, hg2⟩
 rw [HF.out.n1]
 have e02 := grown_at hg2 e0 (by omega)
 have hz2 := hg2.size
 have hG2 := grown_trans hg1w.out hg2
 clear T2 hg1w e0 c0
 have c0 : w2.cell? ⟨w.heap.size, 0, none⟩ = some (.pointer (some ⟨pb, 0, none⟩)) := cell_of_row w2 w.heap.size 0 _ _ (0, 0) e02
 have hlt2 : w.heap.size < w2.heap.size := by omega
 clear hzA hz1 hz2
 go_wp2_with fail
 have S3 := FnSt.mk0 name hp2 hG2 hlt hlt2 e02
 have hz3 : ((w2.alloc (.cells (gtCells ⟨3, name, 0, 0, 0, []⟩ (.slice none 0 0) (.slice none 0 0) 0) 130)).alloc (.cells #[.pointer (some ⟨w2.heap.size, 0, none⟩)] 90)).heap.size = w2.heap.size + 1 + 1 := by simp
 clear hp2 hg2 e02 hG2 c0
 generalize w2.heap.size = fb at S3 hz3 hlt2 ⊢
 have hlf := hlt2
 clear hlt2
 refine (want1 pb L hL (k + 2) [40] _ (fb + 1 + 1) hz3 S3.pa (by omega) HF.out.t2).mono ?_
 rintro e w4 ⟨rfl, hp4, hg4⟩
 have S4 := Lib.hid (S3.go hg4 hp4)
 clear S3 hz3 hp4 hg4
 obtain ⟨c0, c1, -, -, -⟩ := S4.out.cells
 go_wp2_with fail
 refine (list_end pb (k + 3) L [41] _ w4 S4.out.pa (by omega) hL HF.out.t3).mono ?_
 rintro e w5 ⟨rfl, hp5, hg5⟩
 have S5 := Lib.hid (S4.out.go hg5 hp5)
 clear S4 hp5 hg5 c0 c1
 obtain ⟨c0, c1, -, -, -⟩ := S5.out.cells
 have hHeld : (fun w' => w'.cell? ⟨w.heap.size, 0, none⟩ = some (.pointer (some ⟨pb, 0, none⟩)) ∧ w'.cell? ⟨fb + 1, 0, none⟩ = some (.pointer (some ⟨fb, 0, none⟩))) w5.drew := ⟨c0, c1⟩
 go_upto_region 5 with fail
 refine wp_region_two (fun w' => w'.cell? ⟨w.heap.size, 0, none⟩ = some (.pointer (some ⟨pb, 0, none⟩)) ∧ w'.cell? ⟨fb + 1, 0, none⟩ = some (.pointer (some ⟨fb, 0, none⟩))) 3 (by kernel_rfl) ?_
 refine tk 0 ?_ rfl (by kernel_rfl) (fun _ _ _ h => h) ‹_› ?_ ?_ (tk 1 ?_ rfl (by kernel_rfl) (fun _ _ _ h => h) ‹_› ?_ ?_ ?_)
 all_goals try (first | rfl | ((try simp only [Act.put, sA, sB, sC]); intro w' hSw; (try dsimp only at hSw); go_simp; try with_reducible rfl))
 try simp only [Act.put, sA, sB, sC]
 refine wpAnyT_one (i := 2) rfl (by kernel_rfl) (fun K hK => ?_)
 go_simp
 refine (types_int pb (k + 4) L w5.drew (S5.out.new ((Below.refl _ _).drew)).pa (by omega) hL HF.out.t4).mono ?_
 rintro e w6 ⟨rfl, hp6, hg6⟩
 have S6 := Lib.hid ((S5.out.new ((Below.refl _ _).drew)).go hg6 hp6)
 clear hp6 hg6
 refine hK.out _ _ (⟨S6.out.cells.1, S6.out.cells.2.1⟩) (fun hHeld => ?_)
 clear hK K
 try simp only [Act.put, sA, sB, sC]
 refine wpAnyT_tail (by kernel_rfl) ?_
 simp only [List.drop_succ_cons, List.drop_zero]
 clear S5 c0 c1 hHeld
 obtain ⟨c0, c1, c8, c3, f0⟩ := S6.out.cells
 have S7 := Lib.hid S6.out.set
 have hn1 : ¬ fb = w.heap.size := by omega
 have hz7 : (w6.setCell ⟨fb, 3, none⟩ (.int .u8 1)).heap.size = w6.heap.size := by simp
 go_wp2_with fail
 refine (want1 pb L hL (k + 5) [123] _ w6.heap.size hz7 S7.out.pa (by omega) HF.out.t5).mono ?_
 rintro e w8 ⟨rfl, hp8, hg8⟩
 have S8 := Lib.hid (S7.out.go hg8 hp8)
 clear S6 S7 hp8 hg8 hz7 c0 c1 c8 c3 f0
 have S9 : BkSt w pb L fb ⟨3, name, 0, 1, 0, []⟩ w8.heap.size (w8.alloc (.cells (gtCells (Hg.Rd.nd 5) (.slice none 0 0) (.slice none 0 0) 0) 130)) (k + 6) :=
  ⟨S8.out.new ((Below.refl _ _).alloc (Nat.le_refl _) _), S8.out.sz, heap_alloc_new w8 _⟩
 go_wp2_with fail
 generalize w8.heap.size = bb at S9 ⊢
 go_loopw [] (fun wr => BkSt w pb L fb ⟨3, name, 0, 1, 0, []⟩ bb wr (k + 6)) (fun _ => 0)
 case atStart => exact S9
 case round =>
  have S9 := Lib.hid hrel
  clear hrel S8
  obtain ⟨c0, c8, f8⟩ := S9.out.cells
  obtain ⟨ap, cp, -, -, -, cbad, -, -⟩ := S9.out.st.pa.read
  have TI := is_any pb (k + 6) L Hg.wReturn wr S9.out.st.pa (by omega) hL
  rw [HF.out.t6] at TI
  have TI := Lib.hid TI
  go_wp2_with fail
  refine TI.out.mono ?_
  rintro e w10 ⟨rfl, hb10⟩
  have S10 := Lib.hid (S9.out.new hb10)
  clear S9 TI hb10 c0 c8 f8 cbad
  obtain ⟨c0, c8, f8⟩ := S10.out.cells
  go_wp2_with fail
  refine (want1 pb L hL (k + 6) Hg.wReturn _ w10.heap.size rfl S10.out.st.pa (by omega) HF.out.t6).mono ?_
  rintro e w11 ⟨rfl, hp11, hg11⟩
  have S11 := Lib.hid (S10.out.go hg11 hp11)
  clear S10 hp11 hg11 c0 c8 f8
  obtain ⟨c0, c8, f8⟩ := S11.out.cells
  have hHeld : (fun w' => w'.cell? ⟨w.heap.size, 0, none⟩ = some (.pointer (some ⟨pb, 0, none⟩)) ∧ w'.cell? ⟨bb, 8, none⟩ = some (.slice none 0 0)) w11.drew := ⟨c0, c8⟩
  obtain ⟨j0, hj, hj0, hj1, hj2⟩ := info_parts treeInfo
  go_upto_region 11 with fail
  refine wp_region_two (fun w' => w'.cell? ⟨w.heap.size, 0, none⟩ = some (.pointer (some ⟨pb, 0, none⟩)) ∧ w'.cell? ⟨bb, 8, none⟩ = some (.slice none 0 0)) 13 (by kernel_rfl) ?_
  refine tk 0 ?_ rfl (by kernel_rfl) (fun _ _ _ h => h) ‹_› ?_ ?_ (tk 1 ?_ rfl (by kernel_rfl) (fun _ _ _ h => h) ‹_› ?_ ?_ (tk 2 ?_ rfl (by kernel_rfl) (fun _ _ _ h => h) ‹_› ?_ ?_ (tk 3 ?_ rfl (by kernel_rfl) (fun _ _ _ h => h) ‹_› ?_ ?_ (tk 4 ?_ rfl (by kernel_rfl) (fun _ _ _ h => h) ‹_› ?_ ?_ (tk 5 ?_ rfl (by kernel_rfl) (fun _ _ _ h => h) ‹_› ?_ ?_ (tk 6 ?_ rfl (by kernel_rfl) (fun _ _ _ h => h) ‹_› ?_ ?_ ?_))))))
  all_goals try (first | rfl | ((try simp only [Act.put, sA, sB, sC]); intro w' hSw; (try dsimp only at hSw); go_simp; try with_reducible rfl))
  try simp only [Act.put, sA, sB, sC]
  refine wpAnyT_one (i := 7) rfl (by kernel_rfl) (fun K hK => ?_)
  go_simp
  refine (expr_num pb (k + 7) L n w11.drew (S11.out.new ((Below.refl _ _).drew)).st.pa (by omega) hL HF.out.k7 HF.out.n10 HF.out.n7).mono ?_
  rintro e w12 ⟨it, rfl, ⟨hnd, hks⟩, hF12, hp12, hg12⟩
  have S12 := Lib.hid ((S11.out.new ((Below.refl _ _).drew)).go hg12 hp12)
  have HF12 := Lib.hid hF12
  have HIT := Lib.hid (And.intro hnd hks)
  have hz12 : w11.heap.size ≤ w12.heap.size := hg12.size
  clear hF12 hp12 hg12 hnd hks
  refine hK.out _ _ (⟨S12.out.cells.1, S12.out.cells.2.1⟩) (fun hHeld => ?_)
  clear hK K
  try simp only [Act.put, sA, sB, sC]
  refine wpAnyT_one (i := 8) rfl (by kernel_rfl) (fun K hK => ?_)
  go_simp
  generalize hWa : World.alloc _ _ = Wa
  obtain ⟨hBa, hha, hza⟩ := new_alloc hWa
  have HZa := Lib.hid hza
  clear hza hWa
  have Sa := Lib.hid (S12.out.new hBa)
  refine hK.out _ _ (⟨Sa.out.cells.1, Sa.out.cells.2.1⟩) (fun hHeld => ?_)
  clear hK K
  try simp only [Act.put, sA, sB, sC]
  refine wpAnyT_take (i := 9) (v := ?_) rfl (by kernel_rfl) (fun _ _ _ h => h) (by assumption) (Or.inl ⟨by rfl, ?_⟩) ?_
  rotate_left
  ·
   (intro w' hSw; (try dsimp only at hSw); go_simp; try with_reducible rfl)
  try simp only [Act.put, sA, sB, sC]
  refine wpAnyT_one (i := 10) rfl (by kernel_rfl) (fun K hK => ?_)
  go_simp
  generalize hWb : World.alloc _ _ = Wb
  obtain ⟨hBb, hhb, hzb⟩ := new_alloc hWb
  have HZb := Lib.hid hzb
  clear hzb hWb
  have Sb := Lib.hid (Sa.out.new hBb)
  refine hK.out _ _ (⟨Sb.out.cells.1, Sb.out.cells.2.1⟩) (fun hHeld => ?_)
  clear hK K
  try simp only [Act.put, sA, sB, sC]
  refine wpAnyT_one (i := 11) rfl (by kernel_rfl) (fun K hK => ?_)
  go_simp
  generalize hWc : World.alloc _ _ = Wc
  obtain ⟨hBc, hhc, hzc⟩ := new_alloc hWc
  have HZc := Lib.hid hzc
  clear hzc hWc
  have Sc := Lib.hid (Sb.out.new hBc)
  refine hK.out _ _ (⟨Sc.out.cells.1, Sc.out.cells.2.1⟩) (fun hHeld => ?_)
  clear hK K
  try simp only [Act.put, sA, sB, sC]
  refine wpAnyT_one (i := 12) rfl (by kernel_rfl) (fun K hK => ?_)
  refine step_append_own rfl (.tmp 59) (.tmp 66) _ rfl Wc.heap.size 90 j0 _ 1 8 Tryz.underlying95 hj hj0 hj1 hj2 rfl (by decide) (.slice none 0 0) 0 [] rfl ⟨rfl, .inl ⟨rfl, rfl⟩⟩ ⟨Wb.heap.size, 0, none⟩ 1 1 [.pointer (some ⟨Wa.heap.size, 0, none⟩)] rfl rfl ?_ (by intro u hu; simp only [List.mem_singleton] at hu; subst hu; rfl) ?_ ?_ ?_ ?_
  ·
   exact cells_at hhc
  ·
   unfold maxLen; omega
  ·
   omega
  ·
   exact Nat.le_refl _
  intro v3 W3 own3 g3 at3
  obtain ⟨y3, z3, rfl⟩ := ownsRow_succ own3
  have S13 := Lib.hid (Sc.out.new (below_of_none g3))
  have HO := Lib.hid (And.intro own3 g3)
  clear own3 g3 at3
  refine hK.out _ _ (⟨S13.out.cells.1, S13.out.cells.2.1⟩) (fun hHeld => ?_)
  clear hK K
  try simp only [Act.put, sA, sB, sC]
  refine wpAnyT_tail (by kernel_rfl) ?_
  simp only [List.drop_succ_cons, List.drop_zero]
  clear hHeld c0 c8 f8
  have hpb := S11.out.st.lo
  have hsz11 := S11.out.sz
  have hlt11 := S11.out.lt
  have FR : ForestIn w11.heap.size Wc [GT.mk Wa.heap.size (Hg.Rd.nd 10) [it]] := by
   have za := HZa.out
   have zb := HZb.out
   have zc := HZc.out
   refine ForestX.above (r := pb) (show ForestIn w11.heap.size w12 [it] from HF12.out) (grown_below (grown_below (grown_below (grown_refl w12 _) hBa) hBb) hBc) (by have := S11.out.st.gr.size; omega) hz12 (by omega) (a := some ⟨w12.heap.size, 0, none⟩) (c := 1) ?_ ?_ ?_
   ·
    exact (hBc.block _ (by omega)).trans hhb
   ·
    exact sl_one ((hBc.block _ (by omega)).trans ((hBb.block _ (by omega)).trans hha))
   ·
    intro q e
    injection e with e
    have e : w12.heap.size = q := e
    exact ⟨by omega, by omega, by omega, fun h => h⟩
  have FB := put_over FR hsz11 (by have za := HZa.out; have zb := HZb.out; have zc := HZc.out; omega) S13.out.b HO.out.1 HO.out.2
  have HFB := Lib.hid FB
  have f8 := S13.out.cells.2.2
  have c8 := S13.out.cells.2.1
  have S14 := Lib.hid (S13.out.st.setAbove (p := ⟨bb, 8, none⟩) hlt11 (.slice (some ⟨y3, 0, none⟩) (0 + 1) z3))
  obtain ⟨c0, -, -, -, -⟩ := S13.out.st.cells
  have hnb : ¬ bb = w.heap.size := by omega
  have hnb2 : ¬ w.heap.size = bb := by omega
  clear FR FB hha hhb hhc hBa hBb hBc S11 S12 Sa Sb Sc HZa HZb HZc HF12 S13 HO hz12 hsz11
  go_wp2_with fail
  refine (want2 pb L hL (k + 8) [59] [125] _ W3.heap.size (by simp) S14.out.pa (by omega) HF.out.t8 HF.out.t9).mono ?_
  rintro e w15 ⟨rfl, hp15, hg15⟩
  have S15 := Lib.hid (S14.out.go hg15 hp15)
  have HFB15 := Lib.hid (HFB.out.keep hg15 (fun q e => by injection e with e; exact .inl (by omega)))
  have HZ15 := Lib.hid (show bb < w15.heap.size from HFB15.out.lt bb (by rw [GT.blocksL_one]; simp))
  clear S14 HFB hp15 hg15 c0 f8 c8
  obtain ⟨c0, c1, c8, -, f8⟩ := S15.out.cells
  have hHeld : (fun w' => w'.cell? ⟨fb + 1, 0, none⟩ = some (.pointer (some ⟨fb, 0, none⟩)) ∧ w'.cell? ⟨fb, 8, none⟩ = some (.slice none 0 0)) w15.drew := ⟨c1, c8⟩
  go_upto_region 13 with fail
  refine wp_region_two (fun w' => w'.cell? ⟨fb + 1, 0, none⟩ = some (.pointer (some ⟨fb, 0, none⟩)) ∧ w'.cell? ⟨fb, 8, none⟩ = some (.slice none 0 0)) 8 (by kernel_rfl) ?_
  refine tk 0 ?_ rfl (by kernel_rfl) (fun _ _ _ h => h) ‹_› ?_ ?_ (tk 1 ?_ rfl (by kernel_rfl) (fun _ _ _ h => h) ‹_› ?_ ?_ (tk 2 ?_ rfl (by kernel_rfl) (fun _ _ _ h => h) ‹_› ?_ ?_ (tk 3 ?_ rfl (by kernel_rfl) (fun _ _ _ h => h) ‹_› ?_ ?_ (tk 4 ?_ rfl (by kernel_rfl) (fun _ _ _ h => h) ‹_› ?_ ?_ (tk 5 ?_ rfl (by kernel_rfl) (fun _ _ _ h => h) ‹_› ?_ ?_ ?_)))))
  all_goals try (first | rfl | ((try simp only [Act.put, sA, sB, sC]); intro w' hSw; (try dsimp only at hSw); go_simp; try with_reducible rfl))
  try simp only [Act.put, sA, sB, sC]
  refine wpAnyT_one (i := 6) rfl (by kernel_rfl) (fun K hK => ?_)
  go_simp
  generalize hWd : World.alloc _ _ = Wd
  obtain ⟨hBd, hhd, hzd⟩ := new_alloc hWd
  have HZd := Lib.hid hzd
  clear hzd hWd
  have Sd := Lib.hid (S15.out.new hBd)
  have HBd := Lib.hid hBd
  clear hBd
  refine hK.out _ _ (⟨Sd.out.cells.2.1, Sd.out.cells.2.2.1⟩) (fun hHeld => ?_)
  clear hK K
  try simp only [Act.put, sA, sB, sC]
  refine wpAnyT_one (i := 7) rfl (by kernel_rfl) (fun K hK => ?_)
  refine step_append_own rfl (.tmp 77) (.tmp 79) _ rfl Wd.heap.size 90 j0 _ 1 8 Tryz.underlying95 hj hj0 hj1 hj2 rfl (by decide) (.slice none 0 0) 0 [] rfl ⟨rfl, .inl ⟨rfl, rfl⟩⟩ ⟨w15.heap.size, 0, none⟩ 1 1 [.pointer (some ⟨bb, 0, none⟩)] rfl rfl ?_ (by intro u hu; simp only [List.mem_singleton] at hu; subst hu; rfl) ?_ ?_ ?_ ?_
  ·
   exact cells_at hhd
  ·
   unfold maxLen; omega
  ·
   omega
  ·
   exact Nat.le_refl _
  intro v5 W5 own5 g5 at5
  obtain ⟨y5, z5, rfl⟩ := ownsRow_succ own5
  have S16 := Lib.hid (Sd.out.new (((Below.refl _ _).drew).trans (below_of_none g5)))
  have HO5 := Lib.hid (And.intro own5 (show Wd.grownBy W5 none from ⟨g5.os, g5.tape, g5.output, g5.size, g5.block⟩))
  clear own5 g5 at5
  refine hK.out _ _ (⟨S16.out.cells.2.1, S16.out.cells.2.2.1⟩) (fun hHeld => ?_)
  clear hK K
  try simp only [Act.put, sA, sB, sC]
  refine wpAnyT_tail (by kernel_rfl) ?_
  simp only [List.drop_succ_cons, List.drop_zero]
  clear hHeld c0 c1 c8 f8
  obtain ⟨-, c1, c8, -, f8⟩ := S16.out.cells
  have FB := put_over (HFB15.out.keep (grown_below (grown_refl w15 none) HBd.out) (fun q e => by cases e)) (show fb < bb by omega) (by have := HBd.out.size; have := HZ15.out; omega) S16.out.f HO5.out.1 HO5.out.2
  have HFF := Lib.hid FB
  have HPF := Lib.hid (S16.out.pa.keep ((Below.refl _ _).setCell (p := ⟨fb, 8, none⟩) (show pb + 1 ≤ fb by omega) (.slice (some ⟨y5, 0, none⟩) (0 + 1) z5)))
  have HGF := Lib.hid (grown_set_new S16.out.gr (p := ⟨fb, 8, none⟩) (show w.heap.size ≤ fb by omega) (.slice (some ⟨y5, 0, none⟩) (0 + 1) z5))
  have hnf : ¬ fb + 1 = fb := by omega
  clear FB S15 HFB15 HBd Sd S16 HO5
  go_wp2
  go_ret
  exact ⟨_, rfl, ⟨rfl, _, _, _, rfl, rfl, rfl, rfl, rfl, HIT.out.1, HIT.out.2⟩, HFF.out.down (by omega), HPF.out, HGF.out⟩
end Go.Proofs.YtihmbbkppkgcmaaGreatDoor
