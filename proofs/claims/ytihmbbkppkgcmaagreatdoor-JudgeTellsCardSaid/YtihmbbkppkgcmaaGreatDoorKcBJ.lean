/-
  Part of a proof: contracts of functions that the claim reaches, and plain lemmas.
-/
import Derived.Test.YtihmbbkppkgcmaaGreatDoorKcBI
import Derived.Test.YtihmbbkppkgcmaaGreatDoorKcAZ
import Derived.DeepKeys3
set_option linter.all false
namespace Go.Proofs.YtihmbbkppkgcmaaGreatDoor
open Go.RowKit
structure KidsAt (W : World) (b : Nat) (nd : Hg.Node) (v : Value) (l : List GT) : Prop where
 hh : W.heap[b]? = some (.cells (gtCells nd (.slice none 0 0) v 0) 130 (0, 0))
 own : W.ownsRow (b + 1) 90 1 v l.length (l.map ptrV)
 f : ForestX (fun q => v.ownBlock = some q) (b + 1) W l
theorem own_not_tree {w : World} {base n q : Nat} {v : Value} {xs : List Value} (h : w.ownsRow base 90 1 v n xs) (hq : v.ownBlock = some q) {cs : Array Value} (hh : w.heap[q]? = some (.cells cs 130 (0, 0))) : False := by
 obtain ⟨_, h2⟩ := h
 rcases h2 with ⟨h0, _⟩ | ⟨g, cap, cur, hv, hg, hh', _⟩
 ·
  rw [h0] at hq; cases hq
 ·
  rw [hv] at hq
  injection hq with hq
  have hq : g = q := hq
  subst hq
  rw [hh] at hh'
  injection hh' with hh'
  injection hh' with _ hh' _
  exact absurd hh' (by decide)
theorem own_not_in {X : Nat → Prop} {w : World} {base lo n : Nat} {v : Value} {xs : List Value} {l : List GT} (h : w.ownsRow base 90 1 v n xs) (hF : ForestX X lo w l) : ∀ q, v.ownBlock = some q → q ∉ GT.blocksL l := by
 intro q hq hm
 obtain ⟨s, hs, rfl⟩ := List.mem_map.1 hm
 obtain ⟨a, c, hh, _⟩ := hF.node s hs
 exact own_not_tree h hq hh
theorem KidsAt.keep {W W' : World} {b r : Nat} {nd : Hg.Node} {v : Value} {l : List GT} (h : KidsAt W b nd v l) (hg : W.grownBy W' (some r)) (hr : r < b) : KidsAt W' b nd v l :=
 ⟨(hg.block b (Array.getElem?_eq_some_iff.1 h.hh).1 (fun e => by injection e with e; omega)).trans h.hh, h.own.kept hg (by
   cases hv : v.ownBlock with
   | none => exact .inl rfl
   | some q => exact .inr (fun e => by injection e with e; have := (h.own.lt q hv).1; omega)), h.f.keep hg (fun q e => by injection e with e; exact .inl (by omega))⟩
theorem KidsAt.lt {W : World} {b : Nat} {nd : Hg.Node} {v : Value} {l : List GT} (h : KidsAt W b nd v l) : b < W.heap.size := (Array.getElem?_eq_some_iff.1 h.hh).1
theorem KidsAt.new {W : World} (nd : Hg.Node) : KidsAt (W.alloc (.cells (gtCells nd (.slice none 0 0) (.slice none 0 0) 0) 130)) W.heap.size nd (.slice none 0 0) [] :=
 ⟨heap_alloc_new W _, ⟨rfl, .inl ⟨rfl, rfl⟩⟩, ForestX.nil _ _ _⟩
theorem KidsAt.grow {W W1 Wd W3 : World} {b r : Nat} {nd : Hg.Node} {v v' : Value} {l : List GT} {t : GT} (h : KidsAt W b nd v l) (hg : W.grownBy W1 (some r)) (hr : r < b) (ht : ForestIn W.heap.size W1 [t]) (hb : Below W1.heap.size W1 Wd)
 (own3 : W3.ownsRow (b + 1) 90 1 v' (l.length + 1) (l.map ptrV ++ [ptrV t])) (g3 : Wd.grownBy W3 v.ownBlock) (at3 : v'.ownBlock = v.ownBlock ∨ v'.ownBlock = some Wd.heap.size) :
 KidsAt (W3.setCell ⟨b, 8, none⟩ v') b nd v' (l ++ [t]) := by
 have hlt := h.lt
 have hX : ∀ q, v.ownBlock = some q → b + 1 ≤ q ∧ q < W.heap.size := h.own.lt
 have h1 := h.keep hg hr
 have F1 : ForestX (fun q => v.ownBlock = some q) (b + 1) W1 (l ++ [t]) := h.f.add hg (by omega) (by omega) (ht.fresh (Nat.le_refl _) (fun q hq => .inr (.inl (hX q hq).2)))
 have hgd : W1.grownBy Wd (some r) := below_grown50 hb _
 have h2 := h1.keep hgd hr
 have F2 := F1.keep hgd (fun q e => by injection e with e; exact .inl (by omega))
 have F3 : ForestX (fun q => v.ownBlock = some q ∨ q = Wd.heap.size) (b + 1) Wd (l ++ [t]) := F2.fresh (Nat.le_refl _) (fun q hq => by
  rcases hq with hq | hq
  ·
   exact .inl hq
  ·
   exact .inr (.inr (by omega)))
 have hni := own_not_in h2.own F3
 have F4 := F3.keep g3 (fun q e => .inr ⟨.inl e, hni q e⟩)
 have F5 : ForestX (fun q => v'.ownBlock = some q) (b + 1) W3 (l ++ [t]) := F4.fresh (Nat.le_refl _) (fun q hq => by
  rcases at3 with e | e
  ·
   exact .inl (.inl (e ▸ hq))
  ·
   rw [e] at hq; injection hq with hq; exact .inl (.inr hq.symm))
 have hbn : v.ownBlock ≠ some b := fun e => by have := hX b e; omega
 have hh3 := (g3.block b (by have := h2.lt; exact this) (fun e => hbn e.symm)).trans h2.hh
 have hgs : W3.grownBy (W3.setCell ⟨b, 8, none⟩ v') (some b) := grown_set (grown_refl _ _) 8 v'
 refine ⟨heap_setCell_same hh3 _, ?_, F5.keep hgs (fun q e => by injection e with e; exact .inl (by omega))⟩
 have own4 : W3.ownsRow (b + 1) 90 1 v' (l ++ [t]).length ((l ++ [t]).map ptrV) := by
  rw [List.length_append, List.map_append]; exact own3
 refine own4.kept hgs ?_
 cases hv : v'.ownBlock with
 | none => exact .inl rfl
 | some q => exact .inr (fun e => by injection e with e; have := (own3.lt q hv).1; omega)
theorem KidsAt.tree {W : World} {b : Nat} {nd : Hg.Node} {v : Value} {l : List GT} (h : KidsAt W b nd v l) : ForestIn b W [.mk b nd l] := by
 have hs := Sl.of_own h.own
 have hni := own_not_in h.own h.f
 have hl := h.own.lt
 obtain ⟨a, c, rfl⟩ := hs.form
 exact ForestX.over h.f (by omega) h.hh hs (fun q e => ⟨by have := (hl q e).1; omega, (hl q e).2, hni q e, fun h => h⟩) (fun _ h => h.elim)
theorem KidsAt.cells {W : World} {b : Nat} {nd : Hg.Node} {v : Value} {l : List GT} (h : KidsAt W b nd v l) : W.cell? ⟨b, 8, none⟩ = some v ∧ (∀ i, W.frozen? ⟨b, i, none⟩ = false) :=
 ⟨cell_of_row W b 8 _ _ (0, 0) h.hh, fun i => by simp [World.frozen?, h.hh]⟩
def All2 {α β : Type} (R : α → β → Prop) (l : List α) (m : List β) : Prop := m.length = l.length ∧ ∀ (j : Nat) (a : α) (b : β), l[j]? = some a → m[j]? = some b → R a b
theorem All2.nil {α β : Type} (R : α → β → Prop) : All2 R [] [] := ⟨rfl, fun j a b h => by simp at h⟩
theorem All2.snoc {α β : Type} {R : α → β → Prop} {l : List α} {m : List β} {a : α} {b : β} (h : All2 R l m) (hab : R a b) : All2 R (l ++ [a]) (m ++ [b]) := by
 refine ⟨by simp [h.1], fun j x y hx hy => ?_⟩
 by_cases hj : j < l.length
 ·
  rw [List.getElem?_append_left hj] at hx
  rw [List.getElem?_append_left (by rw [h.1]; exact hj)] at hy
  exact h.2 j x y hx hy
 ·
  rw [List.getElem?_append_right (by omega)] at hx
  rw [List.getElem?_append_right (by rw [h.1]; omega), h.1] at hy
  have hj0 : j - l.length = 0 := by
   have := (List.getElem?_eq_some_iff.1 hx).1
   simp at this; omega
  rw [hj0] at hx hy
  simp at hx hy
  subst hx; subst hy
  exact hab
structure ModAt (L : List Hg.Tok) (k : Nat) (name : List UInt8) (fs : List (List UInt8 × Nat)) : Prop where
 len : k + 4 + 10 * fs.length ≤ L.length
 t0 : tkIs L k Hg.wModule = true
 k1 : (tkAt L (k + 1)).kind = 1
 n1 : (tkAt L (k + 1)).text = name
 t2 : tkIs L (k + 2) [123] = true
 all_ : ∀ j, (h : j < fs.length) → FuncAt L (k + 3 + 10 * j) fs[j].1 fs[j].2
 t3 : tkIs L (k + 3 + 10 * fs.length) [125] = true
abbrev Mods := List (List UInt8 × List (List UInt8 × Nat))
def posM : Mods → Nat → Nat
 | _, 0 => 0
 | [], _ + 1 => 0
 | m :: ms, i + 1 => 4 + 10 * m.2.length + posM ms i
theorem posM_zero (ms : Mods) : posM ms 0 = 0 := by cases ms <;> rfl
theorem posM_succ : ∀ (ms : Mods) (i : Nat) (m : List UInt8 × List (List UInt8 × Nat)), ms[i]? = some m → posM ms (i + 1) = posM ms i + 4 + 10 * m.2.length
 | [], i, m, h => by simp at h
 | m0 :: ms, 0, m, h => by
   simp at h
   subst h
   show 4 + 10 * m0.2.length + posM ms 0 = posM (m0 :: ms) 0 + 4 + 10 * m0.2.length
   rw [posM_zero, posM_zero]; omega
 | m0 :: ms, i + 1, m, h => by
   show 4 + 10 * m0.2.length + posM ms (i + 1) = 4 + 10 * m0.2.length + posM ms i + 4 + 10 * m.2.length
   rw [posM_succ ms i m (by simpa using h)]
   omega
structure ProgAt (L : List Hg.Tok) (ms : Mods) : Prop where
 mods : ∀ i, (h : i < ms.length) → ModAt L (posM ms i) ms[i].1 ms[i].2
 all : posM ms ms.length = L.length
def ModSh (m : List UInt8 × List (List UInt8 × Nat)) (t : GT) : Prop := t.nd = ⟨2, m.1, 0, 0, 0, []⟩ ∧ All2 (fun (f : List UInt8 × Nat) t => FuncSh f.1 f.2 t) m.2 t.ks
def ProgSh (ms : Mods) (t : GT) : Prop := t.nd = Hg.Rd.nd 1 ∧ All2 ModSh ms t.ks
theorem PaAt.cellN {w : World} {pb k : Nat} {L : List Hg.Tok} (h : PaAt w pb L k) : cellN w ⟨pb, 1, none⟩ = k := by
 obtain ⟨_, _, _, c1, _⟩ := h.read
 simp [Go.Proofs.YtihmbbkppkgcmaaGreatDoor.cellN, c1]
theorem below_of_own {w w' : World} {B : Nat} {o : Option Nat} (h : w.grownBy w' o) (ho : ∀ q, o = some q → B ≤ q) (hB : B ≤ w.heap.size) : Below B w w' :=
 ⟨h.os, h.tape, h.output, h.size, fun b hb => h.block b (by omega) (fun e => by have := ho b e.symm; omega)⟩
theorem grown_step {w w1 w2 : World} {r o : Option Nat} (h : w.grownBy w1 r) (h' : w1.grownBy w2 o) (ho : ∀ q, o = some q → w.heap.size ≤ q) : w.grownBy w2 r :=
 ⟨h'.os.trans h.os, h'.tape.trans h.tape, h'.output.trans h.output, Nat.le_trans h.size h'.size, fun b hb hne => (h'.block b (Nat.lt_of_lt_of_le hb h.size) (fun e => by have := ho b e.symm; omega)).trans (h.block b hb hne)⟩
theorem tkIs_not {L : List Hg.Tok} {k : Nat} {s t : List UInt8} (h : tkIs L k s = true) (hne : s ≠ t) : tkIs L k t = false := by
 unfold tkIs at h ⊢
 simp only [Bool.and_eq_true, beq_iff_eq] at h
 rw [h.1]
 have : (s == t) = false := by simpa using hne
 rw [this, Bool.false_and]
theorem FuncAt.more {L : List Hg.Tok} {k n : Nat} {name : List UInt8} (h : FuncAt L k name n) : tkIs L k [125] = false := tkIs_not h.t0 (by decide)
theorem take_one {α : Type} {l : List α} {j : Nat} {a : α} (h : l[j]? = some a) : l.take (j + 1) = l.take j ++ [a] := by
 obtain ⟨hj, e⟩ := List.getElem?_eq_some_iff.1 h
 rw [List.take_succ_eq_append_getElem hj, e]
set_option maxHeartbeats 8000000 in
set_option maxRecDepth 100000 in
theorem prog_any (pb : Nat) (L : List Hg.Tok) (ms : Mods) (w : World) (hP : PaAt w pb L 0) (hL : L.length ≤ 1000000) (hM : ProgAt L ms) :
 Calls Tryz.prog 37 #[.pointer (some ⟨pb, 0, none⟩)] w (PaRes w pb L L.length (ProgSh ms)) := by
 have hlt := hP.lt
 have HM := Lib.hid hM
 have hK0 := KidsAt.new (W := w) (Hg.Rd.nd 1)
 have hP0 : PaAt (w.alloc (.cells (gtCells (Hg.Rd.nd 1) (.slice none 0 0) (.slice none 0 0) 0) 130)) pb L 0 := hP.keep ((Below.refl _ _).alloc (by omega) _)
 have hG0 : w.grownBy (w.alloc (.cells (gtCells (Hg.Rd.nd 1) (.slice none 0 0) (.slice none 0 0) 0) 130)) (some pb) := World.grownBy_alloc w _ _
 obtain ⟨j0, hj, hj0, hj1, hj2⟩ := info_parts treeInfo
 clear hP hM
 go_enter Tryz.func37, Tryz.ntmps37
 go_wp2
 go_loopw [] (fun wr => ∃ (i : Nat) (v : Value) (G : List GT), i ≤ ms.length ∧ PaAt wr pb L (posM ms i) ∧ w.grownBy wr (some pb) ∧ KidsAt wr w.heap.size (Hg.Rd.nd 1) v G ∧ All2 ModSh (ms.take i) G) (fun wr => L.length - cellN wr ⟨pb, 1, none⟩)
 case atStart => exact ⟨0, _, [], Nat.zero_le _, by rw [posM_zero]; exact hP0, hG0, hK0, All2.nil _⟩
 case round =>
  obtain ⟨i, v, G, hi, hp, hg, hk, hA⟩ := hrel
  clear hK0 hP0 hG0
  have HA := Lib.hid hA
  clear hA
  obtain ⟨pa, pc, c0, c1, -, c3, -, -⟩ := hp.read
  by_cases hlti : i < ms.length
  ·
   obtain ⟨m, hm⟩ : ∃ m, ms[i]? = some m := ⟨_, List.getElem?_eq_getElem hlti⟩
   have hmod := HM.out.mods i hlti
   have hpos := posM_succ ms i m hm
   have hme : ms[i] = m := by have := List.getElem?_eq_getElem hlti; rw [hm] at this; injection this with this; exact this.symm
   rw [hme] at hmod
   have HMM := Lib.hid (And.intro hm hpos)
   have hml := hmod.len
   have hq : decide ((posM ms i : Int) < (L.length : Int)) = true := by simp; omega
   have HMD := Lib.hid hmod
   clear hm hpos hme hmod
   generalize posM ms i = k0 at hp c1 HMM hml hq HMD ⊢
   have hpb : pb < w.heap.size := hlt
   have HPI0 := Lib.hid hp
   go_wp2
   go_quiet (fail)
   have hpq : PaAt (wr.drewN nq) pb L k0 := hp.keep (below_drewN (Below.refl _ _) nq)
   have hkq : KidsAt (wr.drewN nq) w.heap.size (Hg.Rd.nd 1) v G := hk.keep (below_grown50 (below_drewN (Below.refl _ _) nq) (some pb)) hpb
   have hgq : w.grownBy (wr.drewN nq) (some pb) := grown_drewN hg nq
   have T1 := Lib.hid (want1 pb L hL k0 Hg.wModule (wr.drewN nq) wr.heap.size rfl hpq (by omega) HMD.out.t0)
   go_wp2_with fail
   refine T1.out.mono ?_
   rintro e w1 ⟨rfl, hp1, hg1⟩
   have hk1 := hkq.keep hg1 hpb
   have hgw1 := grown_trans hgq hg1
   clear hp hg hk c0 c1 c3 hpq hkq hgq T1 hg1
   have T2 := Lib.hid (name_any pb (k0 + 1) L w1 hp1 (by omega) hL HMD.out.k1)
   clear hp1
   go_wp2_with fail
   refine T2.out.mono ?_
   rintro e w2 ⟨rfl, hp2, hg2⟩
   rw [HMD.out.n1]
   have HK2 := Lib.hid (hk1.keep hg2 hpb)
   have HG2 := Lib.hid (grown_trans hgw1 hg2)
   have hl2 : pb < w2.heap.size := hp2.lt
   have hwl : w.heap.size < w2.heap.size := HK2.out.lt
   have hpA : PaAt (w2.alloc (.cells (gtCells ⟨2, m.1, 0, 0, 0, []⟩ (.slice none 0 0) (.slice none 0 0) 0) 130)) pb L (k0 + 2) := hp2.keep ((Below.refl _ _).alloc (by omega) _)
   have T3 := Lib.hid (want1 pb L hL (k0 + 2) [123] _ (w2.heap.size + 1) (by simp) hpA (by omega) HMD.out.t2)
   have hkA := Lib.hid (KidsAt.new (W := w2) ⟨2, m.1, 0, 0, 0, []⟩)
   have hgA : w2.grownBy (w2.alloc (.cells (gtCells ⟨2, m.1, 0, 0, 0, []⟩ (.slice none 0 0) (.slice none 0 0) 0) 130)) (some pb) := World.grownBy_alloc w2 _ _
   clear T2 hk1 hgw1 hg2 hp2 hpA
   go_wp2_with fail
   refine T3.out.mono ?_
   rintro e w3 ⟨rfl, hp3, hg3⟩
   have HK3 := Lib.hid (hkA.out.keep hg3 hl2)
   have HG3 := Lib.hid (grown_trans hgA hg3)
   have HP3 := Lib.hid hp3
   clear T3 hkA hgA hg3 hp3
   have HFl : ∀ j, m.2.take j = m.2.take j := fun _ => rfl
   clear HFl
   have hmb : w2.heap.size = w2.heap.size := rfl
   generalize hmbe : w2.heap.size = mb at HK3 hl2 hwl ⊢
   clear hmb
   have HMB := Lib.hid hmbe
   clear hmbe
   go_wp2
   go_loopw [] (fun wi => ∃ (j : Nat) (v2 : Value) (F : List GT), j ≤ m.2.length ∧ PaAt wi pb L (k0 + 3 + 10 * j) ∧ w2.grownBy wi (some pb) ∧ KidsAt wi mb ⟨2, m.1, 0, 0, 0, []⟩ v2 F ∧ All2 (fun (f : List UInt8 × Nat) t => FuncSh f.1 f.2 t) (m.2.take j) F) (fun wi => L.length - cellN wi ⟨pb, 1, none⟩)
   case atStart => exact ⟨0, _, [], Nat.zero_le _, HP3.out, HG3.out, HK3.out, All2.nil _⟩
   case round =>
    obtain ⟨j, v2, F, hj', hpi, hgi, hki, hAi⟩ := hrel
    have HAi := Lib.hid hAi
    obtain ⟨-, -, -, c1, -, c3, -, -⟩ := hpi.read
    have hpm : pb < mb := by omega
    have HK3' := HK3
    clear HK3 HP3 HG3 hAi
    by_cases hjl : j < m.2.length
    ·
     obtain ⟨f, hf⟩ : ∃ f, m.2[j]? = some f := ⟨_, List.getElem?_eq_getElem hjl⟩
     have hFA : FuncAt L (k0 + 3 + 10 * j) f.1 f.2 := by
      have h1 := HMD.out.all_ j hjl
      have h2 : m.2[j] = f := by have := List.getElem?_eq_getElem hjl; rw [hf] at this; injection this with this; exact this.symm
      rw [h2] at h1
      exact h1
     have HFJ := Lib.hid hf
     have HFL := Lib.hid (show F.length ≤ 1000000 by
      have := HAi.out.1
      rw [List.length_take] at this
      omega)
     have TN := Lib.hid (take_no pb (k0 + 3 + 10 * j) L [125] wr hpi (by have := hFA.len; omega) hL hFA.more)
     clear hf
     go_wp2_with fail
     refine TN.out.mono ?_
     rintro e w4 ⟨rfl, hb4⟩
     have hp4 := hpi.keep (hb4.mono hpi.lt)
     have HK4 := Lib.hid (show KidsAt w4.drew mb ⟨2, m.1, 0, 0, 0, []⟩ v2 F from hki.keep (below_grown50 (hb4.trans ((Below.refl _ _).drew)) (some pb)) hpm)
     have hG4 : w2.grownBy w4.drew (some pb) := grown_below hgi (hb4.trans ((Below.refl _ _).drew))
     have hHeld : (fun w' => w'.cell? ⟨mb, 8, none⟩ = some v2) w4.drew := HK4.out.cells.1
     have HPI := Lib.hid hpi
     clear hpi hgi hki TN c1 c3 hb4
     go_upto_region 7 with fail
     refine wp_region_two (fun w' => w'.cell? ⟨mb, 8, none⟩ = some v2) 9 (by kernel_rfl) ?_
     refine tk 0 ?_ rfl (by kernel_rfl) (fun _ _ _ h => h) ‹_› ?_ ?_ (tk 1 ?_ rfl (by kernel_rfl) (fun _ _ _ h => h) ‹_› ?_ ?_ (tk 2 ?_ rfl (by kernel_rfl) (fun _ _ _ h => h) ‹_› ?_ ?_ (tk 3 ?_ rfl (by kernel_rfl) (fun _ _ _ h => h) ‹_› ?_ ?_ (tk 4 ?_ rfl (by kernel_rfl) (fun _ _ _ h => h) ‹_› ?_ ?_ (tk 5 ?_ rfl (by kernel_rfl) (fun _ _ _ h => h) ‹_› ?_ ?_ ?_)))))
     all_goals try (first | rfl | ((try simp only [Act.put, sA, sB, sC]); intro w' hSw; (try dsimp only at hSw); go_simp; try with_reducible rfl))
     try simp only [Act.put, sA, sB, sC]
     refine wpAnyT_one (i := 6) rfl (by kernel_rfl) (fun K hK => ?_)
     go_simp
     refine (func_any pb (k0 + 3 + 10 * j) L f.1 f.2 w4.drew (hp4.keep ((Below.refl _ _).drew)) hL hFA).mono ?_
     rintro e w5 ⟨t, rfl, hsh, hF5, hp5, hg5⟩
     have hk5 := HK4.out.keep hg5 hpm
     have HK5 := Lib.hid hk5
     have HP5 := Lib.hid hp5
     have HG5 := Lib.hid hg5
     have HF5 := Lib.hid hF5
     have HSH := Lib.hid hsh
     have hc5 := hk5.cells.1
     clear hk5 hp5 hg5 hF5 hsh
     refine hK.out _ _ (hc5) (fun hHeld => ?_)
     clear hK K
     try simp only [Act.put, sA, sB, sC]
     refine wpAnyT_one (i := 7) rfl (by kernel_rfl) (fun K hK => ?_)
     go_simp
     generalize hWa : World.alloc _ _ = Wa
     obtain ⟨hBa, hha, hza⟩ := new_alloc hWa
     have HZa := Lib.hid hza
     have HBa := Lib.hid hBa
     clear hza hWa hBa
     refine hK.out _ _ ((HBa.out.cell (p := ⟨mb, 8, none⟩) HK5.out.lt).trans hc5) (fun hHeld => ?_)
     clear hK K
     try simp only [Act.put, sA, sB, sC]
     refine wpAnyT_one (i := 8) rfl (by kernel_rfl) (fun K hK => ?_)
     have hbl := HK5.out.lt
     refine step_append_own rfl (.tmp 50) (.tmp 53) _ rfl (mb + 1) 90 j0 _ 1 8 Tryz.underlying95 hj hj0 hj1 hj2 rfl (by decide) v2 F.length (F.map ptrV) rfl (own_below HK5.out.own HBa.out (Nat.le_refl _)) ⟨w5.heap.size, 0, none⟩ 1 1 [ptrV t] rfl rfl ?_ (by intro u hu; simp only [List.mem_singleton] at hu; subst hu; rfl) ?_ ?_ ?_ ?_
     ·
      exact cells_at hha
     ·
      have := HFL.out; unfold maxLen; omega
     ·
      have := HFL.out; omega
     ·
      have := HZa.out; show mb + 1 ≤ Wa.heap.size; omega
     intro v3 W3 own3 g3 at3
     obtain ⟨y3, z3, rfl⟩ := ownsRow_succ own3
     have hnb : (some mb : Option Nat) ≠ v2.ownBlock := fun e => by have := (HK5.out.own.lt mb e.symm).1; omega
     have hb3 := (g3.block mb (by have := HZa.out; show mb < Wa.heap.size; omega) hnb).trans ((HBa.out.block mb hbl).trans HK5.out.hh)
     have HK6 := Lib.hid (HK4.out.grow (W1 := w5) (Wd := Wa) HG5.out hpm HF5.out HBa.out own3 ⟨g3.os, g3.tape, g3.output, g3.size, g3.block⟩ at3)
     have HG6 := Lib.hid (grown_below (w1 := w5) (grown_trans hG4 HG5.out) HBa.out)
     have HG3 := Lib.hid (And.intro g3 hnb)
     have HOL := Lib.hid own3.lt
     clear own3 g3 at3
     refine hK.out _ _ (cell_of_row W3 mb 8 _ _ (0, 0) hb3) (fun hHeld => ?_)
     clear hK K
     try simp only [Act.put, sA, sB, sC]
     refine wpAnyT_tail (by kernel_rfl) ?_
     simp only [List.drop_succ_cons, List.drop_zero]
     have f8 : ∀ i, W3.frozen? ⟨mb, i, none⟩ = false := fun i => by simp [World.frozen?, hb3]
     have c8 := hHeld
     have hol : ∀ q, v2.ownBlock = some q → mb + 1 ≤ q := fun q e => (HK5.out.own.lt q e).1
     have hmz : mb < Wa.heap.size := by have := HZa.out; have := HK5.out.lt; omega
     have HPF := Lib.hid (((HP5.out.keep (HBa.out.mono HP5.out.lt)).keep (below_of_own (B := pb + 1) HG3.out.1 (fun q e => by have := hol q e; omega) (by show pb + 1 ≤ Wa.heap.size; omega))).keep ((Below.refl _ _).setCell (p := ⟨mb, 8, none⟩) (show pb + 1 ≤ mb by omega) (.slice (some ⟨y3, 0, none⟩) (F.length + 1) z3)))
     have HGF := Lib.hid (grown_set_new (grown_step HG6.out (show Wa.grownBy W3 v2.ownBlock from ⟨HG3.out.1.os, HG3.out.1.tape, HG3.out.1.output, HG3.out.1.size, HG3.out.1.block⟩) (fun q e => by have := hol q e; have := HMB.out; omega)) (p := ⟨mb, 8, none⟩) (show w2.heap.size ≤ mb by have := HMB.out; omega) (.slice (some ⟨y3, 0, none⟩) (F.length + 1) z3))
     have HAF := Lib.hid (HAi.out.snoc HSH.out)
     rw [← take_one HFJ.out] at HAF
     clear hHeld hb3 HK4 hG4 HK5 HP5 HG5 HF5 hc5 hha HBa HZa HG6 HG3 HOL hol hmz hFA HSH
     go_wp2
     go_roundw
     case rel => exact ⟨j + 1, _, _, by omega, by rw [show k0 + 3 + 10 * (j + 1) = k0 + 3 + 10 * j + 10 by omega]; exact HPF.out, HGF.out, HK6.out, HAF.out⟩
     case measure =>
      have h1 := HPF.out.cellN
      have h2 := HPI.out.cellN
      rw [h1, h2]
      omega
    ·
     obtain rfl : j = m.2.length := by omega
     have hAi := HAi.out
     rw [List.take_length] at hAi
     have HAM := Lib.hid hAi
     have TY := Lib.hid (take_yes pb (k0 + 3 + 10 * m.2.length) L [125] wr hpi (by omega) hL HMD.out.t3)
     have HKI := Lib.hid hki
     have HGI := Lib.hid hgi
     clear hpi hki hgi hAi HAi hjl hj'
     go_wp2_with fail
     refine TY.out.mono ?_
     rintro e w4 ⟨rfl, hp4, hg4⟩
     have HF4 := Lib.hid ((HKI.out.keep hg4 hpm).tree)
     have HG4 := Lib.hid (grown_trans HGI.out hg4)
     have HR4 := Lib.hid (HK2.out.keep HG4.out hpb)
     have HP4 := Lib.hid hp4
     have hGL : G.length ≤ 1000000 := by
      have h1 := HA.out.1
      rw [List.length_take] at h1
      have h2 := (HM.out.mods)
      have : ∀ n, n ≤ ms.length → 4 * n ≤ posM ms n := by
       intro n
       induction n with
       | zero => intro _; omega
       | succ n ih =>
         intro hn
         have := posM_succ ms n _ (List.getElem?_eq_getElem (show n < ms.length by omega))
         have := ih (by omega)
         omega
      have h3 := this ms.length (Nat.le_refl _)
      have h4 := HM.out.all
      omega
     obtain ⟨c8, f8⟩ := HR4.out.cells
     clear TY hp4 hg4 c1 c3
     have hvr := HR4.out.own
     go_wp2_with (at_builtin; refine wpList_append_own_at _ rfl (.tmp 61) (.tmp 63) _ rfl (w.heap.size + 1) 90 j0 _ 1 8 Tryz.underlying95 hj hj0 hj1 hj2 rfl (by decide) v G.length (G.map ptrV) rfl (hvr.alloc _) ⟨w4.heap.size, 0, none⟩ 1 1 [.pointer (some ⟨mb, 0, none⟩)] rfl rfl (cells_new _ _ _) ?_ ?_ ?_ ?_ ?_)
     ·
      intro u hu; simp only [List.mem_singleton] at hu; subst hu; rfl
     ·
      unfold maxLen; omega
     ·
      omega
     ·
      have := HR4.out.lt; simp; omega
     ·
      intro v3 W3 own3 g3 _ at3
      obtain ⟨y3, z3, rfl⟩ := ownsRow_succ own3
      have hol : ∀ q, v.ownBlock = some q → w.heap.size + 1 ≤ q := fun q e => (hvr.lt q e).1
      have hnb : (some w.heap.size : Option Nat) ≠ v.ownBlock := fun e => by have := hol _ e.symm; omega
      have hbn : Below w4.heap.size w4 (w4.alloc (.cells #[.pointer (some ⟨mb, 0, none⟩)] 90)) := (Below.refl _ _).alloc (Nat.le_refl _) _
      have hb3 := (g3.block w.heap.size (by have := HR4.out.lt; simp; omega) hnb).trans ((hbn.block _ HR4.out.lt).trans HR4.out.hh)
      have HK6 := Lib.hid (HK2.out.grow (W1 := w4) HG4.out hpb (t := GT.mk mb ⟨2, m.1, 0, 0, 0, []⟩ F) (by rw [HMB.out]; exact HF4.out) hbn own3 g3 (by simpa using at3))
      have HPF := Lib.hid (((HP4.out.keep (hbn.mono HP4.out.lt)).keep (below_of_own (B := pb + 1) g3 (fun q e => by have := hol q e; omega) (by have := HP4.out.lt; simp; omega))).keep ((Below.refl _ _).setCell (p := ⟨w.heap.size, 8, none⟩) (show pb + 1 ≤ w.heap.size by omega) (.slice (some ⟨y3, 0, none⟩) (G.length + 1) z3)))
      have HGF := Lib.hid (grown_set_new (grown_step (grown_below (grown_trans HG2.out HG4.out) hbn) g3 (fun q e => by have := hol q e; omega)) (p := ⟨w.heap.size, 8, none⟩) (show w.heap.size ≤ w.heap.size from Nat.le_refl _) (.slice (some ⟨y3, 0, none⟩) (G.length + 1) z3))
      have HAF := Lib.hid (HA.out.snoc (a := m) (b := GT.mk mb ⟨2, m.1, 0, 0, 0, []⟩ F) ⟨rfl, HAM.out⟩)
      rw [← take_one HMM.out.1] at HAF
      have f8 : ∀ i, W3.frozen? ⟨w.heap.size, i, none⟩ = false := fun i => by simp [World.frozen?, hb3]
      have c8 := cell_of_row W3 w.heap.size 8 _ _ (0, 0) hb3
      simp at c8
      clear own3 g3 at3 hb3 hbn hvr hol hnb HKI HGI HR4 HP4 HG4 HF4
      go_wp2
      go_roundw
      case rel => exact ⟨i + 1, _, _, by omega, by rw [HMM.out.2, show k0 + 4 + 10 * m.2.length = k0 + 3 + 10 * m.2.length + 1 by omega]; exact HPF.out, HGF.out, HK6.out, HAF.out⟩
      case measure =>
       have h1 := HPF.out.cellN
       have h2 := HPI0.out.cellN
       rw [h1, h2]
       omega
  ·
   obtain rfl : i = ms.length := by omega
   have hA := HA.out
   rw [List.take_length] at hA
   have hpe : posM ms ms.length = L.length := HM.out.all
   rw [hpe] at hp c1
   have hq : decide ((L.length : Int) < (L.length : Int)) = false := by simp
   have HAF := Lib.hid hA
   clear hA HA hlti hi hpe
   go_wp2
   go_quiet (fail)
   have HPF := Lib.hid (hp.keep (below_drewN (Below.refl _ _) nq))
   have HKF := Lib.hid (hk.keep (below_grown50 (below_drewN (Below.refl _ _) nq) (some pb)) hlt)
   have HGF := Lib.hid (grown_drewN hg nq)
   clear hp hk hg c0 c1 c3
   go_wp2
   go_ret
   exact ⟨GT.mk w.heap.size (Hg.Rd.nd 1) G, rfl, ⟨rfl, HAF.out⟩, HKF.out.tree, HPF.out, HGF.out⟩
end Go.Proofs.YtihmbbkppkgcmaaGreatDoor
namespace Go.Proofs.YtihmbbkppkgcmaaGreatDoor
open Go.RowKit
theorem NmAt.cells {w : World} {nb next : Nat} {av fv mv cv uv sv : Value} (h : NmAt w nb av next fv mv cv uv sv) :
 w.cell? ⟨nb, 0, none⟩ = some av ∧ w.cell? ⟨nb, 1, none⟩ = some (.int .u64 (next : Int)) ∧ w.cell? ⟨nb, 2, none⟩ = some fv ∧ w.cell? ⟨nb, 3, none⟩ = some mv ∧ w.cell? ⟨nb, 4, none⟩ = some cv ∧ w.cell? ⟨nb, 5, none⟩ = some uv ∧ w.cell? ⟨nb, 6, none⟩ = some sv ∧ (∀ i, w.frozen? ⟨nb, i, none⟩ = false) :=
 have k := fun i => cell_of_row w nb i _ _ (0, 0) h
 ⟨k 0, k 1, k 2, k 3, k 4, k 5, k 6, fun i => by simp [World.frozen?, show w.heap[nb]? = _ from h]⟩
theorem NmAt.keep {w w' : World} {nb next : Nat} {av fv mv cv uv sv : Value} (h : NmAt w nb av next fv mv cv uv sv) {row : Option Nat} (hg : w.grownBy w' row) (hr : row ≠ some nb) : NmAt w' nb av next fv mv cv uv sv :=
 (hg.block nb h.lt (fun e => hr e.symm)).trans h
theorem NmAt.setS {w : World} {nb next : Nat} {av fv mv cv uv sv : Value} (h : NmAt w nb av next fv mv cv uv sv) (v : Value) : NmAt (w.setCell ⟨nb, 6, none⟩ v) nb av next fv mv cv uv v := heap_setCell_same h _
theorem NmAt.setU {w : World} {nb next : Nat} {av fv mv cv uv sv : Value} (h : NmAt w nb av next fv mv cv uv sv) (v : Value) : NmAt (w.setCell ⟨nb, 5, none⟩ v) nb av next fv mv cv v sv := heap_setCell_same h _
def PlainK (s : GT) : Prop := s.nd.kind = 5 ∨ s.nd.kind = 10 ∨ s.nd.kind = 13
theorem scopeInfo : (Tryz.prog.info? 165).map (fun i => (i.zero, i.size, i.bytes)) = some (some (.map none), 1, 8) := by kernel_rfl
def VisRes (W0 : World) (nb : Nat) (av : Value) (next : Nat) (fv mv cv uv : Value) (k : Nat) (w' : World) : Prop :=
 ∃ sv xs, NmAt w' nb av next fv mv cv uv sv ∧ W0.grownBy w' (some nb) ∧ w'.ownsRow W0.heap.size 165 1 sv k xs
theorem VisRes.pop {W0 W : World} {nb next k g z : Nat} {av fv mv cv uv : Value} {xs : List Value} (hnb : nb < W0.heap.size) (hM : NmAt W nb av next fv mv cv uv (.slice (some ⟨g, 0, none⟩) (k + 1) z)) (hg : W0.grownBy W (some nb)) (hown : W.ownsRow W0.heap.size 165 1 (.slice (some ⟨g, 0, none⟩) (k + 1) z) (k + 1) xs) :
 VisRes W0 nb av next fv mv cv uv k (W.setCell ⟨nb, 6, none⟩ (.slice (some ⟨g, 0, none⟩) k z)).drew := by
 have hlen : xs.length = k + 1 := by have := hown.1; omega
 rw [← List.take_append_drop k xs] at hown
 have h2 := ownsRow_pop (n := k) (by rw [List.length_take]; omega) hown
 have hgs := grown_set (grown_refl W (some nb)) 6 (.slice (some ⟨g, 0, none⟩) k z)
 have h3 := h2.kept hgs (.inr (fun e => by have := (h2.lt nb e).1; omega))
 have hg2 := grown_set hg 6 (.slice (some ⟨g, 0, none⟩) k z)
 exact ⟨_, _, hM.setS _, ⟨hg2.os, hg2.tape, hg2.output, hg2.size, hg2.block⟩, h3⟩
set_option maxHeartbeats 8000000 in
set_option maxRecDepth 100000 in
theorem visit_any (l : List GT) (nb : Nat) (Z : Nat → Prop) (hA : Amb l nb Z) (W0 : World) (ids : Nat → Nat) (κ : Nat → Value) (hG : ∀ s ∈ l, NodeAt W0 ids κ Z s) (hnb : nb < W0.heap.size) (av : Value) (next : Nat) (fv mv cv uv : Value) :
 ∀ (n : Nat) (t : GT), t ∈ l → t.subs.length ≤ n → (∀ s ∈ t.subs, PlainK s) → ∀ (k : Nat) (w : World), VisRes W0 nb av next fv mv cv uv k w → k + n ≤ 1000000 →
 Calls Tryz.prog 105 #[.pointer (some ⟨nb, 0, none⟩), ptrV t] w fun e w' => e = .returned (.int .i64 0) ∧ VisRes W0 nb av next fv mv cv uv k w' := by
 intro n
 induction n with
 | zero => intro t ht hn; rw [GT.subs_eq] at hn; simp at hn
 | succ n ih =>
   intro t ht hn hpl k w hV hkn
   have IH := Lib.hid ih
   have hlenk : t.subs.length = (GT.blocksL t.ks).length + 1 := by rw [GT.subs_eq, GT.blocksL_len]; rfl
   have hkl : t.ks.length ≤ 1000000 := by have := GT.len_le t.ks; omega
   have HG := Lib.hid hG
   have HA := Lib.hid hA
   have HT := Lib.hid ht
   have HPL := Lib.hid hpl
   have hpt : PlainK t := hpl t (GT.self_mem t)
   obtain ⟨sv, xs, hM, hg, hown⟩ := hV
   obtain ⟨i0, hi, hz0, hz1, hz2⟩ := info_parts scopeInfo
   have hnode : ∀ W, W0.grownBy W (some nb) → NodeAt W ids κ Z t := fun W hg => (HG.out t HT.out).keep hg (fun e => by injection e with e; exact HA.out.ne t HT.out e.symm) (fun q e hz => by injection e with e; exact HA.out.nbz (e ▸ hz))
   have HND := Lib.hid hnode
   obtain ⟨a, c, hh, hsl, hq⟩ := hG t ht
   have HS := Lib.hid (show ∀ W, W0.grownBy W (some nb) → Sl W W0.heap.size (.slice a t.ks.length c) t.ks.length (t.ks.map ptrV) from fun W hg => hsl.grown (Nat.le_refl _) hg (fun g e e' => by injection e with e; exact HA.out.nbz (e ▸ hq g e')))
   have HC := Lib.hid (show ∀ W, W0.grownBy W (some nb) → W.heap[t.b]? = some (.cells (gtCells t.nd (κ t.b) (.slice a t.ks.length c) (ids t.b)) 130 (0, 0)) from fun W hg => (hg.block t.b (Array.getElem?_eq_some_iff.1 hh).1 (fun e => by injection e with e; exact HA.out.ne t HT.out e)).trans hh)
   have htb : t.b < W0.heap.size := (Array.getElem?_eq_some_iff.1 hh).1
   have hmm := @run_makeMap Tryz.prog
   have hh1 := HC.out w hg
   have c0 := cell_of_row w t.b 0 _ _ (0, 0) hh1
   have c8 := cell_of_row w t.b 8 _ _ (0, 0) hh1
   obtain ⟨-, -, -, -, -, -, c6, f6⟩ := hM.cells
   simp at c0 c8
   clear hnode hh hsl hq hh1 hG hA ht hpl ih
   by_cases hk5 : t.nd.kind = 5
   ·
    rw [hk5] at c0
    have HM := Lib.hid hM
    have HGR := Lib.hid hg
    have HOW := Lib.hid hown
    have hne : ¬ nb = t.b := fun e => HA.out.ne t HT.out e.symm
    have hol : ∀ q, sv.ownBlock = some q → W0.heap.size ≤ q := fun q e => (hown.lt q e).1
    clear hM hg hown hpt
    have hkb : k + 1 ≤ 1000000 := by omega
    go_enter Tryz.func105, Tryz.ntmps105
    go_wp2_with (at_builtin; refine wpList_append_own_at _ rfl (.tmp 51) (.tmp 53) _ rfl W0.heap.size 165 i0 _ 1 8 Tryz.underlying96 hi hz0 hz1 hz2 rfl (by decide) sv k xs rfl ((HOW.out.alloc _).alloc _) ⟨w.heap.size + 1, 0, none⟩ 1 1 [.map (some w.heap.size)] rfl rfl ?_ ?_ ?_ ?_ ?_ ?_)
    ·
     exact cells_new2 _ _ _ _
    ·
     intro u hu; simp only [List.mem_singleton] at hu; subst hu; rfl
    ·
     unfold maxLen; omega
    ·
     omega
    ·
     have := HGR.out.size; simp; omega
    ·
     intro v3 W3 own3 g3 _ at3
     have hbn : Below w.heap.size w ((w.alloc (.map #[] 0)).alloc (.cells #[.map (some w.heap.size)] 165)) := ((Below.refl _ _).alloc (Nat.le_refl _) _).alloc (by simp) _
     have hM3 : NmAt W3 nb av next fv mv cv uv sv := ((HM.out.keep (below_grown50 hbn none) (by simp)).keep g3 (fun e => by have := hol nb e; omega))
     have hg3 : W0.grownBy W3 (some nb) := grown_step (grown_below HGR.out hbn) g3 hol
     obtain ⟨y3, z3, rfl⟩ := ownsRow_succ own3
     have HV := Lib.hid (show VisRes W0 nb av next fv mv cv uv (k + 1) (W3.setCell ⟨nb, 6, none⟩ (.slice (some ⟨y3, 0, none⟩) (k + 1) z3)) from ⟨_, _, hM3.setS _, grown_set hg3 6 _, own3.kept (grown_set (grown_refl W3 (some nb)) 6 _) (.inr (fun e => by have := (own3.lt nb e).1; omega))⟩)
     obtain ⟨-, -, -, -, -, -, c6, f6⟩ := hM3.cells
     have c8 := cell_of_row W3 t.b 8 _ _ (0, 0) (HC.out W3 hg3)
     simp at c8
     clear hbn hM3 hg3 own3 g3 at3 HM HGR HOW hol
     go_wp2
     go_loopw [62] (fun p wr => ∃ j : Nat, p = .int .i64 (j : Int) ∧ j ≤ t.ks.length ∧ VisRes W0 nb av next fv mv cv uv (k + 1) wr) (fun p wr => t.ks.length - (intOf p).toNat)
     case atStart => exact ⟨0, rfl, Nat.zero_le _, HV.out⟩
     case round =>
      obtain ⟨j, rfl, hj, hV⟩ := hrel
      have HVR := Lib.hid hV
      obtain ⟨sv5, xs5, hM5, hg5, hown5⟩ := hV
      by_cases hlt : j < t.ks.length
      ·
       have hsj := HS.out wr hg5
       obtain ⟨b, o, rfl, _, kc⟩ := hsj.mapAt hlt
       have hkm : t.ks[j] ∈ t.ks := List.getElem_mem hlt
       have TI := Lib.hid (IH.out t.ks[j] (HA.out.kids t HT.out _ hkm) (by have := GT.len_lt hkm; omega) (fun s hs => HPL.out s (by rw [GT.subs_eq]; exact List.mem_cons_of_mem _ (GT.mem_subsL hkm s hs))) (k + 1) wr HVR.out (by omega))
       clear hsj hkm hM5 hg5 hown5
       go_wp2_with fail
       refine TI.out.mono ?_
       rintro e w5 ⟨rfl, hV5⟩
       have HV5 := Lib.hid hV5
       clear hV5
       go_wp2
       go_roundw
       case rel => exact ⟨j + 1, by go_num, by omega, HV5.out⟩
       case measure => simp [intOf]; omega
      ·
       obtain rfl : j = t.ks.length := by omega
       have hh5 := HC.out wr hg5
       have c0 := cell_of_row wr t.b 0 _ _ (0, 0) hh5
       simp at c0
       rw [hk5] at c0
       obtain ⟨g5, z5, rfl⟩ := ownsRow_succ hown5
       obtain ⟨-, -, -, -, -, -, c6, f6⟩ := hM5.cells
       have hcap : k + 1 ≤ z5 := (by obtain ⟨c9, e, h, _⟩ := own_form hown5 rfl; injection e with _ _ e; omega)
       have hks : IntKind.i64.wrap (((k + 1 : Nat) : Int) - 1) = (k : Int) := by rw [IntWalk.i64_in _ (by omega)]; omega
       have hks2 : IntKind.i64.wrap (k : Int) = (k : Int) := IntWalk.i64_in _ (by omega)
       have hcap2 : k ≤ z5 := by omega
       have HV5 := Lib.hid (And.intro hM5 (And.intro hg5 hown5))
       have hHeld : (fun w' => w'.cell? ⟨nb, 6, none⟩ = some (.slice (some ⟨g5, 0, none⟩) (k + 1) z5)) wr.drew := c6
       clear hM5 hg5 hown5 HVR hh5
       go_wp2
       refine wp_region_two (fun w' => w'.cell? ⟨nb, 6, none⟩ = some (.slice (some ⟨g5, 0, none⟩) (k + 1) z5)) 12 (by kernel_rfl) ?_
       refine tk 0 ?_ rfl (by kernel_rfl) (fun _ _ _ h => h) ‹_› ?_ ?_ (tk 1 ?_ rfl (by kernel_rfl) (fun _ _ _ h => h) ‹_› ?_ ?_ (tk 2 ?_ rfl (by kernel_rfl) (fun _ _ _ h => h) ‹_› ?_ ?_ (tk 3 ?_ rfl (by kernel_rfl) (fun _ _ _ h => h) ‹_› ?_ ?_ (tk 4 ?_ rfl (by kernel_rfl) (fun _ _ _ h => h) ‹_› ?_ ?_ (tk 5 ?_ rfl (by kernel_rfl) (fun _ _ _ h => h) ‹_› ?_ ?_ (tk 6 ?_ rfl (by kernel_rfl) (fun _ _ _ h => h) ‹_› ?_ ?_ (tk 7 ?_ rfl (by kernel_rfl) (fun _ _ _ h => h) ‹_› ?_ ?_ (tk 8 ?_ rfl (by kernel_rfl) (fun _ _ _ h => h) ‹_› ?_ ?_ (tk 9 ?_ rfl (by kernel_rfl) (fun _ _ _ h => h) ‹_› ?_ ?_ (tk 10 ?_ rfl (by kernel_rfl) (fun _ _ _ h => h) ‹_› ?_ ?_ (tk 11 ?_ rfl (by kernel_rfl) (fun _ _ _ h => h) ‹_› ?_ ?_ ?_)))))))))))
       all_goals try (first | rfl | ((try simp only [Act.put, sA, sB, sC]); intro w' hSw; (try dsimp only at hSw); go_simp; try with_reducible rfl))
       try simp only [Act.put, sA, sB, sC]
       refine wpAnyT_tail (by kernel_rfl) ?_
       simp only [List.drop_succ_cons, List.drop_zero]
       go_wp2
       go_ret
       exact ⟨rfl, VisRes.pop hnb HV5.out.1 HV5.out.2.1 HV5.out.2.2⟩
   ·
    have HV := Lib.hid (show VisRes W0 nb av next fv mv cv uv k w from ⟨sv, xs, hM, hg, hown⟩)
    have hK : t.nd.kind = 10 ∨ t.nd.kind = 13 := by
     rcases hpt with h | h | h
     ·
      exact absurd h hk5
     ·
      exact .inl h
     ·
      exact .inr h
    have q7 : ((t.nd.kind : Int) == 7) = false := by simp; omega
    have q15 : ((t.nd.kind : Int) == 15) = false := by simp; omega
    have q19 : ((t.nd.kind : Int) == 19) = false := by simp; omega
    have q5 : ((t.nd.kind : Int) == 5) = false := by simp; omega
    have q6 : ((t.nd.kind : Int) == 6) = false := by simp; omega
    have HK := Lib.hid hK
    have hkb : k ≤ 1000000 := by omega
    clear hM hg hown hpt hk5 hK
    go_enter Tryz.func105, Tryz.ntmps105
    go_wp2
    go_loopw [62] (fun p wr => ∃ j : Nat, p = .int .i64 (j : Int) ∧ j ≤ t.ks.length ∧ VisRes W0 nb av next fv mv cv uv (k) wr) (fun p wr => t.ks.length - (intOf p).toNat)
    case atStart => exact ⟨0, rfl, Nat.zero_le _, HV.out⟩
    case round =>
     obtain ⟨j, rfl, hj, hV⟩ := hrel
     have HVR := Lib.hid hV
     obtain ⟨sv5, xs5, hM5, hg5, hown5⟩ := hV
     by_cases hlt : j < t.ks.length
     ·
      have hsj := HS.out wr hg5
      obtain ⟨b, o, rfl, _, kc⟩ := hsj.mapAt hlt
      have hkm : t.ks[j] ∈ t.ks := List.getElem_mem hlt
      have TI := Lib.hid (IH.out t.ks[j] (HA.out.kids t HT.out _ hkm) (by have := GT.len_lt hkm; omega) (fun s hs => HPL.out s (by rw [GT.subs_eq]; exact List.mem_cons_of_mem _ (GT.mem_subsL hkm s hs))) (k) wr HVR.out (by omega))
      clear hsj hkm hM5 hg5 hown5
      go_wp2_with fail
      refine TI.out.mono ?_
      rintro e w5 ⟨rfl, hV5⟩
      have HV5 := Lib.hid hV5
      clear hV5
      go_wp2
      go_roundw
      case rel => exact ⟨j + 1, by go_num, by omega, HV5.out⟩
      case measure => simp [intOf]; omega
     ·
      obtain rfl : j = t.ks.length := by omega
      have hh5 := HC.out wr hg5
      have c0 := cell_of_row wr t.b 0 _ _ (0, 0) hh5
      simp at c0
      clear hM5 hg5 hown5 hh5
      go_wp2
      go_ret
      exact ⟨rfl, HVR.out⟩
end Go.Proofs.YtihmbbkppkgcmaaGreatDoor
namespace Go.Proofs.YtihmbbkppkgcmaaGreatDoor
open Go.RowKit
def KMap {α : Type} (k : TypeId) (enc : α → Value) (w : World) (b : Nat) (K : List α) : Prop := ∃ n D, n ≤ K.length ∧ w.ownsMap Tryz.prog k rawR b n D ∧ ∀ x l, x ∉ K → keyOf Tryz.prog k (enc x) = some l → Maps.has D l = false
theorem KMap.made {α : Type} (k : TypeId) (enc : α → Value) (w : World) : KMap k enc (w.alloc (.map #[] 0)) w.heap.size [] :=
 ⟨0, _, Nat.le_refl _, World.ownsMap_made w _ _ _, fun _ _ _ _ => rfl⟩
theorem KMap.lt {α : Type} {k : TypeId} {enc : α → Value} {w : World} {b : Nat} {K : List α} (h : KMap k enc w b K) : b < w.heap.size := by
 obtain ⟨_, D, _, ho, _⟩ := h
 exact ho.lt
theorem KMap.keep {α : Type} {k : TypeId} {enc : α → Value} {w w' : World} {b : Nat} {K : List α} (h : KMap k enc w b K) (hh : w'.heap[b]? = w.heap[b]?) : KMap k enc w' b K := by
 obtain ⟨n, D, hn, ho, hs⟩ := h
 obtain ⟨es, clock, hb, F, hs', hD⟩ := ho
 exact ⟨n, D, hn, ⟨es, clock, hh.trans hb, F, hs', hD⟩, hs⟩
theorem KMap.look {α : Type} {k t e : TypeId} {enc : α → Value} {w : World} {b : Nat} {K : List α} (h : KMap k enc w b K) (hk : Maps.Keyed Tryz.prog k) (ht : (Tryz.prog).underlying t = some (.map k e)) {z : Value} (hz : (zeroValue e).run Tryz.prog w = .ok z w) {x : α} (hx : x ∉ K) (hl : ∃ l, keyOf Tryz.prog k (enc x) = some l) :
 (Instr.lookup t (.map (some b)) (enc x) false).run Tryz.prog w = .ok z w := by
 obtain ⟨n, D, hn, ho, hs⟩ := h
 obtain ⟨l, hl⟩ := hl
 obtain ⟨v, ps, hrun, hv⟩ := ho.lookup hk ht hz (zd := .held z) (zp := []) rfl hl
 rw [Maps.atKey_of_not_has (hs x l hx hl)] at hv
 simp only [rawR, Option.some.injEq, Prod.mk.injEq] at hv
 have e : v = z := by simpa using hv.1
 rw [hrun, e]
theorem KMap.put {α : Type} {k t e : TypeId} {enc : α → Value} {w : World} {b : Nat} {K : List α} (h : KMap k enc w b K) (hk : Maps.Keyed Tryz.prog k) (ht : (Tryz.prog).underlying t = some (.map k e)) (hinj : ∀ x y, enc x = enc y → x = y) (hK : K.length ≤ 1000000) (x : α) (hl : ∃ l, keyOf Tryz.prog k (enc x) = some l) (v : Value) :
 ∃ w', (Instr.mapUpdate t (.map (some b)) (enc x) v).run Tryz.prog w = .ok () w' ∧ KMap k enc w' b (x :: K) ∧ w.grownBy w' (some b) := by
 obtain ⟨n, D, hn, ho, hs⟩ := h
 obtain ⟨l, hl⟩ := hl
 obtain ⟨w', hrun, ho', hg⟩ := ho.update hk ht (by unfold maxLen; omega) hl (val := v) (d := .held v) (ps := []) rfl
 refine ⟨w', hrun, ⟨_, _, ?_, ho', fun y ly hy hly => ?_⟩, hg⟩
 ·
  simp; omega
 ·
  have hne : ly ≠ l := fun e => hy (by
   have := hinj _ _ (hk.inj (e ▸ hly) hl)
   rw [this]; simp)
  rw [Maps.has_put_other hne]
  exact hs y ly (fun hm => hy (List.mem_cons_of_mem _ hm)) hly
theorem full_keyed : Maps.Keyed Tryz.prog 135 := Maps.Keyed.of_law (deep_law (m := 2) (by omega) (by kernel_rfl) (by kernel_rfl) (by kernel_rfl))
theorem size_pos : ∃ n, (Tryz.prog).types.size = n + 1 := ⟨(Tryz.prog).types.size - 1, by kernel_rfl⟩
theorem cells_full : (Tryz.prog).cellsOf 135 = 2 := by kernel_rfl
theorem cells_str : (Tryz.prog).cellsOf 9 = 1 := by kernel_rfl
theorem type_full : (Tryz.prog).keyType 135 = true := by kernel_rfl
theorem keyLits_struct {P : Program} {d : Nat} {t : TypeId} {fs : Array Field} {cs : List Value} (hu : P.underlying t = some (.struct fs)) : P.keyLits (d + 1) t cs = if cs.length = P.cellsOf t ∧ fs.all (·.name != "_") = true then (fs.toList.mapM fun f => P.keyLits d f.type ((cs.drop f.offset).take (P.cellsOf f.type))).map List.flatten else none := by
 simp only [Program.keyLits, hu]
theorem keyOf_full (a b : List UInt8) (ha : a.length ≤ 1000000) (hb : b.length ≤ 1000000) : ∃ l, keyOf Tryz.prog 135 (.agg #[strV a, strV b]) = some l := by
 have hu := Tryz.underlying135
 have hs := Tryz.underlying9
 obtain ⟨n, hn⟩ := size_pos
 have h1 : ∀ s : List UInt8, s.length ≤ 1000000 → (Tryz.prog).keyLits (n + 1) 9 [strV s] = some [.string s] := by
  intro s h
  simp only [Program.keyLits, hs]
  rw [if_pos]
  show s.length ≤ maxLen
  unfold maxLen; omega
 unfold keyOf
 rw [hu]
 simp only [type_full, Value.formed, hu, cells_full, Bool.true_and]
 rw [if_pos (by rfl), hn, keyLits_struct hu, if_pos ⟨by rw [cells_full]; rfl, by kernel_rfl⟩]
 have e1 : ((Value.agg #[strV a, strV b]).cells.toList.drop 0).take 1 = [strV a] := rfl
 have e2 : ((Value.agg #[strV a, strV b]).cells.toList.drop 1).take 1 = [strV b] := rfl
 simp only [List.mapM_cons, List.mapM_nil, cells_str, e1, e2, h1 a ha, h1 b hb]
 exact ⟨_, rfl⟩
theorem str_keyed : Maps.Keyed Tryz.prog 9 := Maps.string_keyed Tryz.underlying9
theorem keyOf_strV (a : List UInt8) (ha : a.length ≤ 1000000) : ∃ l, keyOf Tryz.prog 9 (strV a) = some l := by
 have hs := Tryz.underlying9
 refine ⟨.string a, ?_⟩
 unfold keyOf
 rw [hs]
 simp only [mapKey, hs]
 rw [if_pos]
 show a.length ≤ maxLen
 unfold maxLen; omega
def fullV (x : List UInt8 × List UInt8) : Value := .agg #[strV x.1, strV x.2]
theorem strV_inj {a b : List UInt8} (h : strV a = strV b) : a = b := by
 injection h with h
 injection h with h
 simpa using congrArg Array.toList h
theorem fullV_inj (x y : List UInt8 × List UInt8) (h : fullV x = fullV y) : x = y := by
 unfold fullV at h
 injection h with h
 have h := congrArg Array.toList h
 simp only [List.cons.injEq] at h
 exact Prod.ext (strV_inj h.1) (strV_inj h.2.1)
abbrev FMap := KMap 135 fullV
set_option maxHeartbeats 8000000 in
set_option maxRecDepth 100000 in
theorem nfunc_any (l : List GT) (nb fb : Nat) (Z : Nat → Prop) (hA : Amb l nb Z) (ids : Nat → Nat) (κ : Nat → Value) (av : Value) (next : Nat) (mv cv uv sv : Value) (mod : List UInt8) (f : GT) (K : List (List UInt8 × List UInt8)) (w : World) (hG : ∀ s ∈ l, NodeAt w ids κ Z s)
 (hN : NmAt w nb av next (.map (some fb)) mv cv uv sv) (hF : FMap w fb K) (hfl : f ∈ l) (hpl : ∀ s ∈ GT.subsL f.ks, PlainK s) (hsz : f.subs.length ≤ 1000) (hZf : ¬ Z fb) (hnew : (mod, f.nd.name) ∉ K) (hK : K.length ≤ 1000) (hm : mod.length ≤ 1000) (hn : f.nd.name.length ≤ 1000) :
 Calls Tryz.prog 62 #[.pointer (some ⟨nb, 0, none⟩), strV mod, ptrV f] w fun e w' => e = .returned (.int .i64 0) ∧ ∃ uv' sv', NmAt w' nb av next (.map (some fb)) mv cv uv' sv' ∧ FMap w' fb ((mod, f.nd.name) :: K) ∧ Fr (fun q => q = nb ∨ q = fb) w w' := by
 have hzp : ∀ W : World, (zeroValue 90).run Tryz.prog W = .ok (.pointer none) W := fun W => by kernel_rfl
 have hkey := keyOf_full mod f.nd.name (by omega) (by omega)
 have HF := Lib.hid hF
 have HNW := Lib.hid hnew
 have HN := Lib.hid hN
 have HG := Lib.hid hG
 have HA := Lib.hid hA
 have HPL := Lib.hid hpl
 have HFL := Lib.hid hfl
 obtain ⟨a, c, hh, hsl, hq⟩ := hG f hfl
 have c1 := cell_of_row w f.b 1 _ _ (0, 0) hh
 simp at c1
 obtain ⟨-, -, c2, -, -, -, -, f6⟩ := hN.cells
 have hnf : nb ≠ fb := by
  intro e
  obtain ⟨_, D, _, ho, _⟩ := hF
  obtain ⟨es, ck, hm⟩ := owns_map ho
  have h1 : w.heap[nb]? = _ := hN
  rw [e, hm] at h1; cases h1
 have hGf : ∀ s ∈ l, s.b ≠ fb := by
  intro s hs e
  obtain ⟨a, c, hh, _⟩ := hG s hs
  obtain ⟨_, D, _, ho, _⟩ := hF
  obtain ⟨es, ck, hm⟩ := owns_map ho
  rw [e, hm] at hh; cases hh
 have HGF := Lib.hid hGf
 have HZF := Lib.hid hZf
 have hmm := @run_makeMap Tryz.prog
 clear hF hG hA hfl hpl hnew hGf hZf hh hsl hq
 go_enter Tryz.func62, Tryz.ntmps62
 go_wp2
 have hbA : Below w.heap.size w (w.alloc (.cells #[strV mod, strV f.nd.name] 135)) := (Below.refl _ _).alloc (Nat.le_refl _) _
 have hkA := heap_alloc_new w (.cells #[strV mod, strV f.nd.name] 135)
 have hzA : (w.alloc (.cells #[strV mod, strV f.nd.name] 135)).heap.size = w.heap.size + 1 := by simp
 have HFR := Lib.hid ((Fr.refl (fun q => q = nb ∨ q = fb) w).alloc (.cells #[strV mod, strV f.nd.name] 135))
 generalize World.alloc w _ = WA at hbA hkA hzA HFR ⊢
 have c2 : WA.cell? ⟨nb, 2, none⟩ = some (.map (some fb)) := (hbA.cell HN.out.lt).trans c2
 have hFA := HF.out.keep (hbA.block fb HF.out.lt)
 have hlkA : (Instr.lookup 93 (.map (some fb)) (.agg #[strV mod, strV f.nd.name]) false).run Tryz.prog WA.drew = .ok (.pointer none) WA.drew := (hFA.keep (w' := WA.drew) rfl).look (z := .pointer none) full_keyed Tryz.underlying93 (hzp _) HNW.out hkey
 have k0 := cell_of_row WA w.heap.size 0 _ _ (0, 0) hkA
 have k1 := cell_of_row WA w.heap.size 1 _ _ (0, 0) hkA
 simp at k0 k1
 have hnA : NmAt WA nb av next (.map (some fb)) mv cv uv sv := (hbA.block nb HN.out.lt).trans HN.out
 have HNA := Lib.hid hnA
 clear hnA hbA hzA
 generalize w.heap.size = kb at hkA k0 k1 ⊢
 have hHeld : (fun w' => w'.cell? ⟨nb, 2, none⟩ = some (.map (some fb)) ∧ w'.cell? ⟨kb, 0, none⟩ = some (strV mod) ∧ w'.cell? ⟨kb, 1, none⟩ = some (strV f.nd.name) ∧ (Instr.lookup 93 (.map (some fb)) (.agg #[strV mod, strV f.nd.name]) false).run Tryz.prog w' = .ok (.pointer none) w') WA.drew := ⟨c2, k0, k1, hlkA⟩
 refine wp_region_two (fun w' => w'.cell? ⟨nb, 2, none⟩ = some (.map (some fb)) ∧ w'.cell? ⟨kb, 0, none⟩ = some (strV mod) ∧ w'.cell? ⟨kb, 1, none⟩ = some (strV f.nd.name) ∧ (Instr.lookup 93 (.map (some fb)) (.agg #[strV mod, strV f.nd.name]) false).run Tryz.prog w' = .ok (.pointer none) w') 6 (by kernel_rfl) ?_
 refine tk 0 ?_ rfl (by kernel_rfl) (fun _ _ _ h => h) ‹_› ?_ ?_ (tk 1 ?_ rfl (by kernel_rfl) (fun _ _ _ h => h) ‹_› ?_ ?_ (tk 2 ?_ rfl (by kernel_rfl) (fun _ _ _ h => h) ‹_› ?_ ?_ (tk 3 ?_ rfl (by kernel_rfl) (fun _ _ _ h => h) ‹_› ?_ ?_ (tk 4 ?_ rfl (by kernel_rfl) (fun _ _ _ h => h) ‹_› ?_ ?_ (tk 5 ?_ rfl (by kernel_rfl) (fun _ _ _ h => h) ‹_› ?_ ?_ ?_)))))
 all_goals try (first | rfl | ((try simp only [Act.put, sA, sB, sC]); intro w' hSw; (try dsimp only at hSw); go_simp; try with_reducible rfl))
 try simp only [Act.put, sA, sB, sC]
 refine wpAnyT_tail (by kernel_rfl) ?_
 simp only [List.drop_succ_cons, List.drop_zero]
 clear hHeld hlkA
 have hHeld : (fun w' => w'.cell? ⟨nb, 2, none⟩ = some (.map (some fb)) ∧ w'.cell? ⟨kb, 0, none⟩ = some (strV mod) ∧ w'.cell? ⟨kb, 1, none⟩ = some (strV f.nd.name)) WA.drew.drew := ⟨c2, k0, k1⟩
 go_wp2
 refine wp_region_two (fun w' => w'.cell? ⟨nb, 2, none⟩ = some (.map (some fb)) ∧ w'.cell? ⟨kb, 0, none⟩ = some (strV mod) ∧ w'.cell? ⟨kb, 1, none⟩ = some (strV f.nd.name)) 6 (by kernel_rfl) ?_
 refine tk 0 ?_ rfl (by kernel_rfl) (fun _ _ _ h => h) ‹_› ?_ ?_ (tk 1 ?_ rfl (by kernel_rfl) (fun _ _ _ h => h) ‹_› ?_ ?_ (tk 2 ?_ rfl (by kernel_rfl) (fun _ _ _ h => h) ‹_› ?_ ?_ (tk 3 ?_ rfl (by kernel_rfl) (fun _ _ _ h => h) ‹_› ?_ ?_ (tk 4 ?_ rfl (by kernel_rfl) (fun _ _ _ h => h) ‹_› ?_ ?_ (tk 5 ?_ rfl (by kernel_rfl) (fun _ _ _ h => h) ‹_› ?_ ?_ ?_)))))
 all_goals try (first | rfl | ((try simp only [Act.put, sA, sB, sC]); intro w' hSw; (try dsimp only at hSw); go_simp; try with_reducible rfl))
 try simp only [Act.put, sA, sB, sC]
 refine wpAnyT_tail (by kernel_rfl) ?_
 simp only [List.drop_succ_cons, List.drop_zero]
 obtain ⟨W2, hrun2, hF2, hg2⟩ := (hFA.keep (w' := WA.drew.drew) rfl).put full_keyed Tryz.underlying93 fullV_inj (by omega) (mod, f.nd.name) hkey (ptrV f)
 have hrun2 : (Instr.mapUpdate 93 (.map (some fb)) (.agg #[strV mod, strV f.nd.name]) (ptrV f)).run Tryz.prog WA.drew.drew = .ok () W2 := hrun2
 have HF2 := Lib.hid hF2
 have hN2 : NmAt W2 nb av next (.map (some fb)) mv cv uv sv := (hg2.block nb HNA.out.lt (fun e => by injection e with e; exact hnf e)).trans HNA.out
 have HFR2 := Lib.hid ((HFR.out.drew.drew).step hg2 (fun q e => .inl (.inr (by injection e with e; exact e.symm))))
 have HN2 := Lib.hid hN2
 obtain ⟨-, -, -, -, -, c5, c6, f6⟩ := hN2.cells
 have hnb2 : nb < W2.heap.size := hN2.lt
 have hnx : ¬ nb = W2.heap.size + 1 + 1 := by omega
 have hnb3 : nb < W2.heap.size + 1 := by omega
 have hnb4 : nb < W2.heap.size + 1 + 1 := by omega
 have HG2 := Lib.hid (show ∀ s ∈ l, NodeAt W2 ids κ Z s from fun s hs => (HG.out s hs).fr HFR2.out (fun e => by
  rcases e with e | e
  ·
   exact HA.out.ne s hs e
  ·
   exact HGF.out s hs e) (fun q hz e => by
  rcases e with e | e
  ·
   exact HA.out.nbz (e ▸ hz)
  ·
   exact HZF.out (e ▸ hz)))
 have HV := Lib.hid (show VisRes W2 nb av next (.map (some fb)) mv cv (.map (some W2.heap.size)) 1 (((((W2.setCell ⟨nb, 5, none⟩ (.map (some W2.heap.size))).setCell ⟨nb, 6, none⟩ (.slice (some ⟨W2.heap.size + 1 + 1, 0, none⟩) 1 1)).alloc (.map #[] 0)).alloc (.map #[] 0)).alloc (.cells #[.map (some (W2.heap.size + 1))] 165)) from by
  have hg1 := grown_set (grown_set (grown_refl W2 (some nb)) 5 (.map (some W2.heap.size))) 6 (.slice (some ⟨W2.heap.size + 1 + 1, 0, none⟩) 1 1)
  have hn1 : NmAt ((W2.setCell ⟨nb, 5, none⟩ (.map (some W2.heap.size))).setCell ⟨nb, 6, none⟩ (.slice (some ⟨W2.heap.size + 1 + 1, 0, none⟩) 1 1)) nb av next (.map (some fb)) mv cv (.map (some W2.heap.size)) (.slice (some ⟨W2.heap.size + 1 + 1, 0, none⟩) 1 1) := (HN2.out.setU _).setS _
  have hz1 : ((W2.setCell ⟨nb, 5, none⟩ (.map (some W2.heap.size))).setCell ⟨nb, 6, none⟩ (.slice (some ⟨W2.heap.size + 1 + 1, 0, none⟩) 1 1)).heap.size = W2.heap.size := by simp
  generalize World.setCell (World.setCell W2 _ _) _ _ = WS at hg1 hn1 hz1 ⊢
  have hb3 : Below WS.heap.size WS (((WS.alloc (.map #[] 0)).alloc (.map #[] 0)).alloc (.cells #[.map (some (W2.heap.size + 1))] 165)) := (((Below.refl _ _).alloc (Nat.le_refl _) _).alloc (by simp) _).alloc (by simp; omega) _
  have hnew : (((WS.alloc (.map #[] 0)).alloc (.map #[] 0)).alloc (.cells #[.map (some (W2.heap.size + 1))] 165)).heap[W2.heap.size + 1 + 1]? = some (.cells #[.map (some (W2.heap.size + 1))] 165 (0, 0)) := by
   have := heap_alloc_new ((WS.alloc (.map #[] 0)).alloc (.map #[] 0)) (.cells #[.map (some (W2.heap.size + 1))] 165)
   simpa [hz1] using this
  exact ⟨_, _, (hb3.block nb hn1.lt).trans hn1, grown_below hg1 hb3, ⟨rfl, .inr ⟨W2.heap.size + 1 + 1, 1, #[.map (some (W2.heap.size + 1))], rfl, by omega, hnew, Nat.le_refl _, by unfold maxLen; omega, rfl, rfl⟩⟩⟩)
 obtain ⟨a, c, hh, hsl, hq⟩ := HG2.out f HFL.out
 have c8 := cell_of_row W2 f.b 8 _ _ (0, 0) hh
 simp at c8
 have hfb2 : f.b < W2.heap.size := (Array.getElem?_eq_some_iff.1 hh).1
 have hfb3 : f.b < W2.heap.size + 1 := by omega
 have hfb4 : f.b < W2.heap.size + 1 + 1 := by omega
 have hne : ¬ nb = f.b := fun e => HA.out.ne f HFL.out e.symm
 clear hF2 hN2 hg2 hHeld hFA k0 k1 hkA
 have hpk : ∀ t ∈ f.ks, t ∈ l ∧ t.subs.length ≤ 1000 ∧ (∀ s ∈ t.subs, PlainK s) := fun t ht =>
  ⟨HA.out.kids f HFL.out t ht, by have := GT.len_lt ht; omega, fun s hs => HPL.out s (GT.mem_subsL ht s hs)⟩
 have HPK := Lib.hid hpk
 have HS := Lib.hid (show ∀ W, W2.grownBy W (some nb) → Sl W W2.heap.size (.slice a f.ks.length c) f.ks.length (f.ks.map ptrV) from fun W hg => hsl.grown (Nat.le_refl _) hg (fun g e e' => by injection e with e; exact HA.out.nbz (e ▸ hq g e')))
 have HC := Lib.hid (show ∀ t ∈ f.ks, ∀ W, W2.grownBy W (some nb) → ∃ u, W.heap[t.b]? = some (.cells (gtCells t.nd (κ t.b) u (ids t.b)) 130 (0, 0)) from fun t ht W hg => by
  have htl := HA.out.kids f HFL.out t ht
  obtain ⟨a', c', hh', _⟩ := HG2.out t htl
  exact ⟨_, (hg.block t.b (Array.getElem?_eq_some_iff.1 hh').1 (fun e => by injection e with e; exact HA.out.ne t htl e)).trans hh'⟩)
 have hkl : f.ks.length ≤ 1000 := by
  have h1 := GT.len_le f.ks
  have h2 : f.subs.length = (GT.blocksL f.ks).length + 1 := by rw [GT.subs_eq, GT.blocksL_len]; rfl
  omega
 have HVA := Lib.hid (visit_any l nb Z HA.out W2 ids κ HG2.out hnb2 av next (.map (some fb)) mv cv (.map (some W2.heap.size)))
 clear hpk hh hsl hq
 go_wp2
 go_loopw [45] (fun p wr => ∃ j : Nat, p = .int .i64 (j : Int) ∧ j ≤ f.ks.length ∧ VisRes W2 nb av next (.map (some fb)) mv cv (.map (some W2.heap.size)) 1 wr) (fun p wr => f.ks.length - (intOf p).toNat)
 case atStart => exact ⟨0, rfl, Nat.zero_le _, HV.out⟩
 case round =>
  obtain ⟨j, rfl, hj, hV⟩ := hrel
  have HVR := Lib.hid hV
  obtain ⟨sv5, xs5, hM5, hg5, hown5⟩ := hV
  by_cases hlt : j < f.ks.length
  ·
   have hsj := HS.out wr hg5
   obtain ⟨b, o, rfl, _, kc⟩ := hsj.mapAt hlt
   have hkm : f.ks[j] ∈ f.ks := List.getElem_mem hlt
   obtain ⟨p1, p2, p3⟩ := HPK.out _ hkm
   have TI := Lib.hid (HVA.out 1000 f.ks[j] p1 p2 p3 1 wr HVR.out (by omega))
   obtain ⟨u, hh5⟩ := HC.out _ hkm wr hg5
   have c0 := cell_of_row wr f.ks[j].b 0 _ _ (0, 0) hh5
   simp at c0
   have q4 : ((f.ks[j].nd.kind : Int) == 4) = false := by
    have := p3 _ (GT.self_mem _)
    unfold PlainK at this
    simp; omega
   clear hsj hkm p1 p2 p3 hh5 hM5 hg5 hown5
   go_wp2_with fail
   refine TI.out.mono ?_
   rintro e w5 ⟨rfl, hV5⟩
   have HV5 := Lib.hid hV5
   clear hV5
   go_wp2
   go_roundw
   case rel => exact ⟨j + 1, by go_num, by omega, HV5.out⟩
   case measure => simp [intOf]; omega
  ·
   clear hM5 hg5 hown5
   go_wp2
   go_ret
   obtain ⟨sv6, xs6, hM6, hg6, _⟩ := HVR.out
   refine ⟨rfl, _, _, hM6, HF2.out.keep (hg6.block fb HF2.out.lt (fun e => by injection e with e; exact hnf e.symm)), HFR2.out.step hg6 (fun q e => .inl (.inl (by injection e with e; exact e.symm)))⟩
end Go.Proofs.YtihmbbkppkgcmaaGreatDoor
