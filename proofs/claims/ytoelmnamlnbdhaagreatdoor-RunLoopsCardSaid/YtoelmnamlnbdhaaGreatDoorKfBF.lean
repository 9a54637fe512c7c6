/-
  Part of a proof of RunLoops: contracts of functions that the claim reaches, and plain lemmas.
-/
import Derived.Test.YtoelmnamlnbdhaaGreatDoorKfBE
import Derived.Test.YtoelmnamlnbdhaaGreatDoorKfAP
import Derived.Test.YtoelmnamlnbdhaaGreatDoorKfAU
set_option linter.all false
namespace Hg
def GT.node (ids ρ : Nat → Nat) (t : GT) : Node := { t.nd with ref := ρ t.b, kids := t.ks.map (fun k => ids k.b) }
end Hg
namespace Go.Proofs.YtoelmnamlnbdhaaGreatDoor
open Go.RowKit
open Hg (GT gl)
theorem own_below77 {w w' : World} {base B : Nat} {e : TypeId} {size : Nat} {v : Value} {n : Nat} {xs : List Value} (h : w.ownsRow base e size v n xs) (hb : Below B w w') (hB : w.heap.size ≤ B) : w'.ownsRow base e size v n xs :=
 h.kept (row := none) ⟨hb.os, hb.tape, hb.output, hb.size, fun k hk _ => hb.block k (by omega)⟩ (by cases hv : v.ownBlock <;> simp)
theorem NmAt.cell0 {w : World} {nb next : Nat} {av fv mv cv uv sv : Value} (h : NmAt w nb av next fv mv cv uv sv) : w.cell? ⟨nb, 0, none⟩ = some av := by
 have := cell_of_row w nb 0 _ _ (0, 0) h
 simpa using this
theorem NodeR.lt {w : World} {ids ρ : Nat → Nat} {κ : Nat → Value} {Z : Nat → Prop} {s : GT} (h : NodeR w ids ρ κ Z s) : s.b < w.heap.size := by
 have := NodeAt.lt h
 rw [GT.rf_b] at this
 exact this
theorem NodeR.setK {w : World} {ids ρ : Nat → Nat} {κ : Nat → Value} {Z : Nat → Prop} {s : GT} (h : NodeR w ids ρ κ Z s) {b : Nat} (v : Value) (hz : ¬ Z b) : NodeR (w.setCell ⟨b, 5, none⟩ v) ids ρ (upd κ b v) Z s := NodeAt.setK h v hz
abbrev ArM := Nat → Option Hg.Node
mutual
def layM (ids ρ : Nat → Nat) : GT → ArM → ArM | .mk b nd _ _ ks, M => putM (layML ids ρ ks M) (ids b) { nd with ref := ρ b, kids := ks.map (fun k => ids k.b) }
def layML (ids ρ : Nat → Nat) : List GT → ArM → ArM | [], M => M | t :: ts, M => layML ids ρ ts (layM ids ρ t M)
end
theorem layM_eq (ids ρ : Nat → Nat) (t : GT) (M : ArM) : layM ids ρ t M = putM (layML ids ρ t.ks M) (ids t.b) (t.node ids ρ) := by
 cases t; rw [layM]; rfl
theorem layML_snoc (ids ρ : Nat → Nat) : ∀ (l : List GT) (t : GT) (M : ArM), layML ids ρ (l ++ [t]) M = layM ids ρ t (layML ids ρ l M)
 | [], t, M => by simp [layML]
 | x :: l, t, M => by
   show layML ids ρ (x :: (l ++ [t])) M = _
   rw [layML, layML, layML_snoc ids ρ l t]
theorem GT.subs_b {t s : GT} (h : s ∈ t.subs) : s.b ∈ t.blocks := List.mem_map.2 ⟨s, h, rfl⟩
theorem ArAtZ.row {o : Option Nat} {Z : Nat → Prop} {w w' : World} {ab mb c : Nat} {M : Nat → Option Hg.Node} (h : ArAtZ Z w ab mb c M) (hg : w.grownBy w' o) (ho : ∀ q, o = some q → q ≠ ab ∧ q ≠ mb ∧ ¬ Z q) : ArAtZ Z w' ab mb c M := by
 have hlt := h.lt
 obtain ⟨h0, ⟨D, hw, hc, hk⟩, hbd⟩ := h
 refine ⟨(hg.block ab hlt (fun e => (ho ab e.symm).1 rfl)).trans h0, ⟨D, hw.kept hg (fun e => (ho mb e.symm).2.1 rfl), hc, fun id hid => ?_⟩, hbd⟩
 have hx := hk id hid
 cases hM : M id with
 | none => rw [hM] at hx; exact hx
 | some nd =>
   rw [hM] at hx
   obtain ⟨ka, kc, h1, h2, h3⟩ := hx
   exact ⟨ka, kc, h1, (h2.grown (Nat.le_refl _) hg (fun g e e' => (ho g e).2.2 (h3 g e'))).more hg.size, h3⟩
theorem Amb.subs {l : List GT} {nb : Nat} {Z : Nat → Prop} (h : Amb l nb Z) : ∀ (n : Nat) (t : GT), t ∈ l → t.subs.length ≤ n + 1 → ∀ s ∈ t.subs, s ∈ l := by
 intro n
 induction n with
 | zero =>
   intro t ht hn s hs
   rw [GT.subs_eq] at hs
   rcases List.mem_cons.1 hs with hs | hs
   ·
    rw [hs]; exact ht
   ·
    rw [GT.subs_eq] at hn
    simp at hn
    rw [hn] at hs
    simp at hs
 | succ n ih =>
   intro t ht hn s hs
   rw [GT.subs_eq] at hs
   rcases List.mem_cons.1 hs with hs | hs
   ·
    rw [hs]; exact ht
   ·
    have key : ∀ (m : List GT), (∀ x ∈ m, x ∈ t.ks) → s ∈ GT.subsL m → ∃ x ∈ m, s ∈ x.subs := by
     intro m
     induction m with
     | nil => intro _ h; simp [GT.subsL_nil] at h
     | cons x m ih2 =>
       intro hx h
       rw [GT.subsL_cons, List.mem_append] at h
       rcases h with h | h
       ·
        exact ⟨x, by simp, h⟩
       ·
        obtain ⟨y, hy, h'⟩ := ih2 (fun z hz => hx z (by simp [hz])) h
        exact ⟨y, by simp [hy], h'⟩
    obtain ⟨x, hx, hs'⟩ := key t.ks (fun _ h => h) hs
    exact ih x (h.kids t ht x hx) (by have := GT.len_lt hx; omega) s hs'
theorem ArAtZ.lts {Z : Nat → Prop} {w : World} {ab mb c : Nat} {M : Nat → Option Hg.Node} (h : ArAtZ Z w ab mb c M) : ab < w.heap.size ∧ mb < w.heap.size := ⟨h.lt, h.map.lt⟩
theorem ar_not_node {Y : Nat → Prop} {w : World} {ab mb c : Nat} {M : Nat → Option Hg.Node} (hR : ArAtZ Y w ab mb c M) {ids ρ : Nat → Nat} {κ : Nat → Value} {Z : Nat → Prop} {s : GT} (h : NodeR w ids ρ κ Z s) : s.b ≠ ab ∧ s.b ≠ mb := by
 obtain ⟨a, c, hh, _⟩ := h.open_
 refine ⟨fun e => ?_, fun e => ?_⟩
 ·
  have h1 := hR.cell
  rw [← e, hh] at h1
  injection h1 with h1
  injection h1 with _ h1 _
  exact absurd h1 (by decide)
 ·
  obtain ⟨⟨D, ho, _⟩, _⟩ := hR.map
  obtain ⟨es, ck, hm⟩ := owns_map ho
  rw [← e, hh] at hm; cases hm
def LayRes (l : List GT) (nb : Nat) (Z : Nat → Prop) (ids ρ : Nat → Nat) (ab mb next : Nat) (fv mv cv uv sv : Value) (t : GT) (κ : Nat → Value) (c : Nat) (M : ArM) (Y : Nat → Prop) (w w' : World) : Prop :=
 ∃ κ' c', (∀ s ∈ l, NodeR w' ids ρ κ' Z s) ∧ (∀ b, b ∉ t.blocks → κ' b = κ b) ∧ NmAt w' nb (.pointer (some ⟨ab, 0, none⟩)) next fv mv cv uv sv ∧ c' ≤ c + t.subs.length ∧
   ArAtZ (fun q => Y q ∨ w.heap.size ≤ q ∧ q < w'.heap.size) w' ab mb c' (layM ids ρ t M) ∧ Fr (fun q => q ∈ t.blocks ∨ q = mb) w w'
structure LayMid (l : List GT) (nb : Nat) (Z : Nat → Prop) (ids ρ : Nat → Nat) (ab mb next : Nat) (fv mv cv uv sv : Value) (t : GT) (κ : Nat → Value) (c : Nat) (M : ArM) (Y : Nat → Prop) (w : World) (j : Nat) (v : Value) (κj : Nat → Value) (cj : Nat) (wr : World) : Prop where
 node : ∀ s ∈ l, NodeR wr ids ρ κj Z s
 here : κj t.b = v
 out : ∀ b, b ≠ t.b → b ∉ GT.blocksL (t.ks.take j) → κj b = κ b
 nm : NmAt wr nb (.pointer (some ⟨ab, 0, none⟩)) next fv mv cv uv sv
 cnt : cj ≤ c + (GT.blocksL (t.ks.take j)).length
 own : wr.ownsRow w.heap.size 45 1 v j ((t.ks.take j).map (fun k => idV (ids k.b)))
 ar : ArAtZ (fun q => (Y q ∨ w.heap.size ≤ q ∧ q < wr.heap.size) ∧ v.ownBlock ≠ some q) wr ab mb cj (layML ids ρ (t.ks.take j) M)
 fr : Fr (fun q => q ∈ t.blocks ∨ q = mb) w wr
theorem LayMid.grow {l : List GT} {nb : Nat} {Z : Nat → Prop} {ids ρ : Nat → Nat} {ab mb next : Nat} {fv mv cv uv sv : Value} {t : GT} {κ : Nat → Value} {c : Nat} {M : ArM} {Y : Nat → Prop} {w : World} {j : Nat} {v : Value} {κj : Nat → Value} {cj : Nat} {wr Wa W3 : World} {y3 z3 : Nat}
 (h : LayMid l nb Z ids ρ ab mb next fv mv cv uv sv t κ c M Y w j v κj cj wr) (hZw : ∀ q, Z q → q < w.heap.size) (hYw : ∀ q, Y q → q < w.heap.size) (hlt : ∀ s ∈ l, s.b < w.heap.size) (htl : t ∈ l) (htz : ¬ Z t.b) (hYn : ∀ s ∈ l, ¬ Y s.b) (hnb : nb < w.heap.size) (htn : t.b ≠ nb) (habm : ab < w.heap.size ∧ mb < w.heap.size)
 (hBa : Below wr.heap.size wr Wa) (g3 : Wa.grownBy W3 v.ownBlock) (u : Value) (own3 : W3.ownsRow w.heap.size 45 1 (.slice (some ⟨y3, 0, none⟩) (j + 1) z3) (j + 1) ((t.ks.take j).map (fun k => idV (ids k.b)) ++ [u]))
 (at3 : (Value.slice (some ⟨y3, 0, none⟩) (j + 1) z3).ownBlock = v.ownBlock ∨ (Value.slice (some ⟨y3, 0, none⟩) (j + 1) z3).ownBlock = some Wa.heap.size) :
 (∀ s ∈ l, NodeR (W3.setCell ⟨t.b, 5, none⟩ (.slice (some ⟨y3, 0, none⟩) (j + 1) z3)) ids ρ (upd κj t.b (.slice (some ⟨y3, 0, none⟩) (j + 1) z3)) Z s) ∧
 NmAt (W3.setCell ⟨t.b, 5, none⟩ (.slice (some ⟨y3, 0, none⟩) (j + 1) z3)) nb (.pointer (some ⟨ab, 0, none⟩)) next fv mv cv uv sv ∧
 (W3.setCell ⟨t.b, 5, none⟩ (.slice (some ⟨y3, 0, none⟩) (j + 1) z3)).ownsRow w.heap.size 45 1 (.slice (some ⟨y3, 0, none⟩) (j + 1) z3) (j + 1) ((t.ks.take j).map (fun k => idV (ids k.b)) ++ [u]) ∧
 ArAtZ (fun q => (Y q ∨ w.heap.size ≤ q ∧ q < (W3.setCell ⟨t.b, 5, none⟩ (.slice (some ⟨y3, 0, none⟩) (j + 1) z3)).heap.size) ∧ (Value.slice (some ⟨y3, 0, none⟩) (j + 1) z3).ownBlock ≠ some q) (W3.setCell ⟨t.b, 5, none⟩ (.slice (some ⟨y3, 0, none⟩) (j + 1) z3)) ab mb cj (layML ids ρ (t.ks.take j) M) ∧
 Fr (fun q => q ∈ t.blocks ∨ q = mb) w (W3.setCell ⟨t.b, 5, none⟩ (.slice (some ⟨y3, 0, none⟩) (j + 1) z3)) := by
 have hol := h.own.lt
 have hsz := h.fr.size
 have htb := hlt t htl
 have hsz3 := g3.size
 have hsza := hBa.size
 have hzs : (W3.setCell ⟨t.b, 5, none⟩ (.slice (some ⟨y3, 0, none⟩) (j + 1) z3)).heap.size = W3.heap.size := by simp
 have hfr3 : Fr (fun q => v.ownBlock = some q) wr W3 := (Fr.of_below hBa).then_ (Fr.of_grown g3 (fun q e => e)) (fun q _ e => e)
 have hgs : W3.grownBy (W3.setCell ⟨t.b, 5, none⟩ (.slice (some ⟨y3, 0, none⟩) (j + 1) z3)) (some t.b) := grown_set (grown_refl _ _) 5 _
 have hn3 : ∀ s ∈ l, NodeR W3 ids ρ κj Z s := fun s hs => (h.node s hs).frr hfr3 (fun e => by have := (hol _ e).1; have := hlt s hs; omega) (fun q hz e => by have := (hol _ e).1; have := hZw q hz; omega)
 have hne := ar_not_node h.ar (h.node t htl)
 refine ⟨fun s hs => (hn3 s hs).setK _ htz, ?_, ?_, ?_, ?_⟩
 ·
  exact (hgs.block nb (by have := h.nm.lt; omega) (fun e => by injection e with e; exact htn e.symm)).trans ((hfr3.block nb h.nm.lt (fun e => by have := (hol _ e).1; omega)).trans h.nm)
 ·
  exact own3.kept hgs (.inr (fun e => by have := (own3.lt t.b e).1; omega))
 ·
  have A1 := h.ar.below hBa (Nat.le_refl _)
  have A2 := A1.imp (Z' := fun q => (Y q ∨ w.heap.size ≤ q ∧ q < wr.heap.size) ∧ v.ownBlock ≠ some q ∧ q ≠ Wa.heap.size) (fun q hq => ⟨hq.1, hq.2, fun e => by
   rcases hq.1 with h | h
   ·
    have := hYw q h; omega
   ·
    omega⟩)
  have A3 := A2.row g3 (fun q e => ⟨by have := (hol q e).1; omega, by have := (hol q e).1; omega, fun hp => hp.2.1 e⟩)
  have A4 := A3.imp (Z' := fun q => (Y q ∨ w.heap.size ≤ q ∧ q < W3.heap.size) ∧ (Value.slice (some ⟨y3, 0, none⟩) (j + 1) z3).ownBlock ≠ some q) (fun q hq => ⟨hq.1.imp (fun h => h) (fun h => ⟨h.1, by omega⟩), fun e => by
   rcases at3 with h | h
   ·
    exact hq.2.1 (h ▸ e)
   ·
    rw [h] at e; injection e with e; exact hq.2.2 e.symm⟩)
  rw [hzs]
  exact A4.row hgs (fun q e => by
   injection e with e
   subst e
   exact ⟨hne.1, hne.2, fun hp => by
    rcases hp.1 with h | h
    ·
     exact hYn t htl h
    ·
     omega⟩)
 ·
  exact (((h.fr.then_ (Fr.of_below (Below.mono hBa (Nat.le_refl _)) : Fr (fun _ => False) wr Wa) (fun _ _ h => h.elim)).step g3 (fun q e => .inr (hol q e).1)).step hgs (fun q e => .inl (.inl (by injection e with e; rw [← e, GT.blocks_eq]; simp))))
theorem GT.nodup_kid {t : GT} (h : t.blocks.Nodup) {j : Nat} (hj : j < t.ks.length) : (t.ks[j]).blocks.Nodup ∧ ∀ b ∈ (t.ks[j]).blocks, b ≠ t.b ∧ b ∉ GT.blocksL (t.ks.take j) := by
 rw [GT.blocks_eq, List.nodup_cons] at h
 obtain ⟨h1, h2⟩ := h
 have e : GT.blocksL t.ks = (GT.blocksL (t.ks.take j) ++ (t.ks[j]).blocks) ++ GT.blocksL (t.ks.drop (j + 1)) := by
  rw [← GT.blocksL_take hj]
  conv => lhs; rw [← List.take_append_drop (j + 1) t.ks]
  unfold GT.blocksL
  rw [GT.subsL_append, List.map_append]
 rw [e, List.nodup_append] at h2
 rw [e] at h1
 have h3 := List.nodup_append.1 h2.1
 refine ⟨h3.2.1, fun b hb => ⟨fun e => h1 (by rw [← e]; simp [hb]), fun hm => h3.2.2 b hm b hb rfl⟩⟩
theorem GT.kid_in {t : GT} {j : Nat} (hj : j < t.ks.length) : ∀ b ∈ (t.ks[j]).blocks, b ∈ t.blocks := by
 intro b hb
 obtain ⟨s, hs, rfl⟩ := List.mem_map.1 hb
 rw [GT.blocks_eq]
 exact List.mem_cons_of_mem _ (List.mem_map.2 ⟨s, GT.mem_subsL (List.getElem_mem hj) s hs, rfl⟩)
theorem LayMid.next {l : List GT} {nb : Nat} {Z : Nat → Prop} {ids ρ : Nat → Nat} {ab mb next : Nat} {fv mv cv uv sv : Value} {t : GT} {κ : Nat → Value} {c : Nat} {M : ArM} {Y : Nat → Prop} {w : World} {j : Nat} {κj : Nat → Value} {cj : Nat} {W4 w5 : World} {y3 z3 : Nat} (hj : j < t.ks.length) (hnd : t.blocks.Nodup)
 (hout : ∀ b, b ≠ t.b → b ∉ GT.blocksL (t.ks.take j) → κj b = κ b) (hcnt : cj ≤ c + (GT.blocksL (t.ks.take j)).length) (hblt : ∀ b ∈ (t.ks[j]).blocks, b < w.heap.size) (hmb : mb < w.heap.size)
 (own4 : W4.ownsRow w.heap.size 45 1 (.slice (some ⟨y3, 0, none⟩) (j + 1) z3) (j + 1) ((t.ks.take j).map (fun k => idV (ids k.b)) ++ [idV (ids t.ks[j].b)])) (hfr : Fr (fun q => q ∈ t.blocks ∨ q = mb) w W4)
 (h : LayRes l nb Z ids ρ ab mb next fv mv cv uv sv t.ks[j] (upd κj t.b (.slice (some ⟨y3, 0, none⟩) (j + 1) z3)) cj (layML ids ρ (t.ks.take j) M) (fun q => (Y q ∨ w.heap.size ≤ q ∧ q < W4.heap.size) ∧ (Value.slice (some ⟨y3, 0, none⟩) (j + 1) z3).ownBlock ≠ some q) W4 w5) :
 ∃ κ5 c5, LayMid l nb Z ids ρ ab mb next fv mv cv uv sv t κ c M Y w (j + 1) (.slice (some ⟨y3, 0, none⟩) (j + 1) z3) κ5 c5 w5 := by
 obtain ⟨κ5, c5, h1, h2, h3, h4, h5, h6⟩ := h
 obtain ⟨n1, n2⟩ := GT.nodup_kid hnd hj
 have htk := GT.blocksL_take hj
 have hsub : t.ks.take (j + 1) = t.ks.take j ++ [t.ks[j]] := List.take_succ_eq_append_getElem hj
 have hfd : ∀ q, (Value.slice (some ⟨y3, 0, none⟩) (j + 1) z3).ownBlock = some q → w.heap.size ≤ q ∧ q < W4.heap.size := own4.lt
 refine ⟨κ5, c5, h1, ?_, fun b hb hb2 => ?_, h3, ?_, ?_, ?_, ?_⟩
 ·
  rw [h2 t.b (fun hm => (n2 _ hm).1 rfl), upd_same]
 ·
  rw [htk, List.mem_append] at hb2
  rw [h2 b (fun hm => hb2 (.inr hm)), upd_other _ _ hb]
  exact hout b hb (fun hm => hb2 (.inl hm))
 ·
  rw [htk, List.length_append, GT.blocks_len]; omega
 ·
  rw [hsub, List.map_append]
  exact ownsRow_fr own4 h6 (fun q e e' => by
   have := (hfd q e).1
   rcases e' with e' | e'
   ·
    have := hblt q e'; omega
   ·
    omega)
 ·
  rw [hsub, layML_snoc]
  refine h5.imp (fun q hq => ?_)
  rcases hq with ⟨hq, hq2⟩ | hq
  ·
   exact ⟨hq.imp (fun x => x) (fun x => ⟨x.1, Nat.lt_of_lt_of_le x.2 h6.size⟩), hq2⟩
  ·
   exact ⟨.inr ⟨Nat.le_trans hfr.size hq.1, hq.2⟩, fun e => by have := (hfd q e).2; omega⟩
 ·
  exact hfr.then_ h6 (fun q _ e => e.imp (fun x => GT.kid_in hj q x) (fun x => x))
set_option maxHeartbeats 8000000 in
set_option maxRecDepth 100000 in
theorem lay_any (l : List GT) (nb : Nat) (Z : Nat → Prop) (hA : Amb l nb Z) (ids ρ : Nat → Nat) (ab mb next : Nat) (fv mv cv uv sv : Value) (hids : ∀ s ∈ l, 0 < ids s.b ∧ ids s.b ≤ 1000000) :
 ∀ (n : Nat) (t : GT), t ∈ l → t.subs.length ≤ n → t.blocks.Nodup → ∀ (κ : Nat → Value) (w : World) (c : Nat) (M : ArM) (Y : Nat → Prop), (∀ s ∈ l, NodeR w ids ρ κ Z s) → (∀ s ∈ t.subs, κ s.b = .slice none 0 0) → NmAt w nb (.pointer (some ⟨ab, 0, none⟩)) next fv mv cv uv sv → ArAtZ Y w ab mb c M →
   (∀ q, Z q → q < w.heap.size ∧ q ≠ mb) → (∀ q, Y q → q < w.heap.size) → (∀ s ∈ l, ¬ Y s.b) → nb ≠ mb → c + t.subs.length ≤ 10000 →
   Calls Tryz.prog 13 #[.pointer (some ⟨nb, 0, none⟩), ptrV t] w fun e w' => e = .returned (.tuple #[]) ∧ LayRes l nb Z ids ρ ab mb next fv mv cv uv sv t κ c M Y w w' := by
 intro n
 induction n with
 | zero => intro t ht hn; rw [GT.subs_eq] at hn; simp at hn
 | succ n ih =>
   intro t ht hn hnd κ w c M Y hG hnil hN hR hZw hYw hYn hnm hcnt
   have IH := Lib.hid ih
   have HA := Lib.hid hA
   have HT := Lib.hid ht
   have HID := Lib.hid hids
   obtain ⟨i0, hi, hz0, hz1, hz2⟩ := info_parts idInfo30
   have hlts : ∀ s ∈ l, s.b < w.heap.size := fun s hs => (hG s hs).lt
   have habm := hR.lts
   have hlenk : t.subs.length = (GT.blocksL t.ks).length + 1 := by rw [GT.subs_eq, GT.blocksL_len]; rfl
   have hkl : t.ks.length ≤ 10000 := by have := GT.len_le t.ks; omega
   have HM0 := Lib.hid (show LayMid l nb Z ids ρ ab mb next fv mv cv uv sv t κ c M Y w 0 (.slice none 0 0) κ c w from
    ⟨hG, hnil t (GT.self_mem t), fun b _ _ => rfl, hN, by simp [GT.blocksL, GT.subsL_nil], ⟨rfl, .inl ⟨rfl, rfl⟩⟩, by
     simp only [List.take_zero, layML]
     exact hR.imp (fun q h => ⟨.inl h, by simp [Value.ownBlock]⟩), Fr.refl _ _⟩)
   obtain ⟨a, cc, hh, hsl, hq⟩ := (hG t ht).open_
   have c8 := cell_of_row w t.b 8 _ _ (0, 0) hh
   simp at c8
   have HS := Lib.hid (show ∀ W, Fr (fun q => q ∈ t.blocks ∨ q = mb) w W → Sl W w.heap.size (.slice a t.ks.length cc) t.ks.length (t.ks.map ptrV) from fun W hf => hsl.fr (Nat.le_refl _) hf (fun q e e' => by
    have hz := hq q e
    rcases e' with e | e
    ·
     obtain ⟨s, hs, rfl⟩ := List.mem_map.1 e
     exact hA.nz s (Amb.subs hA n t ht hn s hs) hz
    ·
     exact (hZw q hz).2 e))
   have HX := Lib.hid (And.intro hnd (And.intro hnil (And.intro hZw (And.intro hYw (And.intro hYn (And.intro hlts (And.intro hN.lt (And.intro habm hnm))))))))
   clear hG hN hR hZw hYw hYn hlts habm hnil hnd hh hsl hq ih hA ht hids
   go_enter Tryz.func13, Tryz.ntmps13
   go_wp2
   go_loopw [11] (fun p wr => ∃ (j : Nat) (v : Value) (κj : Nat → Value) (cj : Nat), p = .int .i64 (j : Int) ∧ j ≤ t.ks.length ∧ LayMid l nb Z ids ρ ab mb next fv mv cv uv sv t κ c M Y w j v κj cj wr) (fun p wr => t.ks.length - (intOf p).toNat)
   case atStart => exact ⟨0, _, _, _, rfl, Nat.zero_le _, HM0.out⟩
   case round =>
    obtain ⟨j, v, κj, cj, rfl, hj, hMid⟩ := hrel
    clear HM0
    by_cases hlt : j < t.ks.length
    ·
     obtain ⟨b, o, rfl, _, kc⟩ := (HS.out wr hMid.fr).mapAt hlt
     have hkm : t.ks[j] ∈ t.ks := List.getElem_mem hlt
     have hkl2 : t.ks[j] ∈ l := HA.out.kids t HT.out _ hkm
     have hnt := hMid.node t HT.out
     have hnk := hMid.node t.ks[j] hkl2
     have htbr := hnt.lt
     have hkbr := hnk.lt
     obtain ⟨_, _, hht, _⟩ := hnt.open_
     obtain ⟨_, _, hhk, _⟩ := hnk.open_
     have c5 := cell_of_row wr t.b 5 _ _ (0, 0) hht
     have c9 := cell_of_row wr t.ks[j].b 9 _ _ (0, 0) hhk
     simp at c5 c9
     rw [hMid.here] at c5
     have f5 : ∀ i, wr.frozen? ⟨t.b, i, none⟩ = false := fun i => by simp [World.frozen?, hht]
     have htw := HX.out.2.2.2.2.2.1 t HT.out
     have hkw := HX.out.2.2.2.2.2.1 t.ks[j] hkl2
     have HOW := Lib.hid (show wr.drew.ownsRow w.heap.size 45 1 v j ((t.ks.take j).map (fun k => idV (ids k.b))) from hMid.own)
     have HOL := Lib.hid (fun q e => (hMid.own.lt q e).1)
     have HFR := Lib.hid hMid.fr
     have HMD := Lib.hid hMid
     have hHeld : (fun w' => w'.cell? ⟨t.b, 5, none⟩ = some v ∧ w'.cell? ⟨t.ks[j].b, 9, none⟩ = some (.int .u64 (ids t.ks[j].b : Int))) wr.drew := ⟨c5, c9⟩
     clear hMid hht hhk
     go_wp2
     refine wp_region_two (fun w' => w'.cell? ⟨t.b, 5, none⟩ = some v ∧ w'.cell? ⟨t.ks[j].b, 9, none⟩ = some (.int .u64 (ids t.ks[j].b : Int))) 12 (by kernel_rfl) ?_
     refine tk 0 ?_ rfl (by kernel_rfl) (fun _ _ _ h => h) ‹_› (by rfl) ?_ ?_
     rotate_left
     · (intro w' hSw; (try dsimp only at hSw); go_simp; try with_reducible rfl)
     try simp only [Act.put, sA, sB, sC, sD, sE, sF]
     refine tk 1 ?_ rfl (by kernel_rfl) (fun _ _ _ h => h) ‹_› (by rfl) ?_ ?_
     rotate_left
     · (intro w' hSw; (try dsimp only at hSw); go_simp; try with_reducible rfl)
     try simp only [Act.put, sA, sB, sC, sD, sE, sF]
     refine tk 2 ?_ rfl (by kernel_rfl) (fun _ _ _ h => h) ‹_› (by rfl) ?_ ?_
     rotate_left
     · (intro w' hSw; (try dsimp only at hSw); go_simp; try with_reducible rfl)
     try simp only [Act.put, sA, sB, sC, sD, sE, sF]
     refine tk 3 ?_ rfl (by kernel_rfl) (fun _ _ _ h => h) ‹_› (by rfl) ?_ ?_
     rotate_left
     · (intro w' hSw; (try dsimp only at hSw); go_simp; try with_reducible rfl)
     try simp only [Act.put, sA, sB, sC, sD, sE, sF]
     refine tk 4 ?_ rfl (by kernel_rfl) (fun _ _ _ h => h) ‹_› (by rfl) ?_ ?_
     rotate_left
     · (intro w' hSw; (try dsimp only at hSw); go_simp; try with_reducible rfl)
     try simp only [Act.put, sA, sB, sC, sD, sE, sF]
     refine tk 5 ?_ rfl (by kernel_rfl) (fun _ _ _ h => h) ‹_› (by rfl) ?_ ?_
     rotate_left
     · (intro w' hSw; (try dsimp only at hSw); go_simp; try with_reducible rfl)
     try simp only [Act.put, sA, sB, sC, sD, sE, sF]
     refine tk 6 ?_ rfl (by kernel_rfl) (fun _ _ _ h => h) ‹_› (by rfl) ?_ ?_
     rotate_left
     · (intro w' hSw; (try dsimp only at hSw); go_simp; try with_reducible rfl)
     try simp only [Act.put, sA, sB, sC, sD, sE, sF]
     refine tk 7 ?_ rfl (by kernel_rfl) (fun _ _ _ h => h) ‹_› (by rfl) ?_ ?_
     rotate_left
     · (intro w' hSw; (try dsimp only at hSw); go_simp; try with_reducible rfl)
     try simp only [Act.put, sA, sB, sC, sD, sE, sF]
     refine tk 8 ?_ rfl (by kernel_rfl) (fun _ _ _ h => h) ‹_› (by rfl) ?_ ?_
     rotate_left
     · (intro w' hSw; (try dsimp only at hSw); go_simp; try with_reducible rfl)
     try simp only [Act.put, sA, sB, sC, sD, sE, sF]
     refine tk 9 ?_ rfl (by kernel_rfl) (fun _ _ _ h => h) ‹_› (by rfl) ?_ ?_
     rotate_left
     · (intro w' hSw; (try dsimp only at hSw); go_simp; try with_reducible rfl)
     try simp only [Act.put, sA, sB, sC, sD, sE, sF]
     refine wpAnyT_one (i := 10) rfl (by kernel_rfl) (fun K hK => ?_)
     go_simp
     generalize hWa : World.alloc _ _ = Wa
     obtain ⟨hBa, hha, hza⟩ := new_alloc hWa
     have HZa := Lib.hid hza
     have HBa := Lib.hid hBa
     clear hza hWa hBa
     refine hK.out _ _ (⟨(HBa.out.cell (p := ⟨t.b, 5, none⟩) htbr).trans hHeld.1, (HBa.out.cell (p := ⟨t.ks[j].b, 9, none⟩) hkbr).trans hHeld.2⟩) (fun hHeld => ?_)
     clear hK K
     try simp only [Act.put, sA, sB, sC, sD, sE, sF]
     refine wpAnyT_one (i := 11) rfl (by kernel_rfl) (fun K hK => ?_)
     refine step_append_own rfl (.tmp 20) (.tmp 25) _ rfl w.heap.size 45 i0 _ 1 8 Tryz.underlying68 hi hz0 hz1 hz2 rfl (by decide) v j ((t.ks.take j).map (fun k => idV (ids k.b))) rfl (own_below77 HOW.out (show Below wr.heap.size wr.drew Wa.drew from ⟨HBa.out.os, HBa.out.tape, HBa.out.output, HBa.out.size, HBa.out.block⟩) (Nat.le_refl _)) ⟨wr.heap.size, 0, none⟩ 1 1 [idV (ids t.ks[j].b)] rfl rfl ?_ (by intro u hu; simp only [List.mem_singleton] at hu; subst hu; rfl) ?_ ?_ ?_ ?_
     ·
      exact cells_at hha
     ·
      unfold maxLen; omega
     ·
      omega
     ·
      have := HFR.out.size; have := HZa.out; show w.heap.size ≤ Wa.heap.size; omega
     intro v3 W3 own3 g3 at3
     obtain ⟨y3, z3, rfl⟩ := ownsRow_succ own3
     have hnb1 : (some t.b : Option Nat) ≠ v.ownBlock := fun e => by have := HOL.out t.b e.symm; omega
     have hnb2 : (some t.ks[j].b : Option Nat) ≠ v.ownBlock := fun e => by have := HOL.out t.ks[j].b e.symm; omega
     have HG3 := Lib.hid (show Wa.grownBy W3 v.ownBlock from ⟨g3.os, g3.tape, g3.output, g3.size, g3.block⟩)
     have HO3 := Lib.hid (And.intro own3 at3)
     clear own3 at3
     refine hK.out _ _ (⟨g3.cell hHeld.1 hnb1, g3.cell hHeld.2 hnb2⟩) (fun hHeld => ?_)
     clear hK K
     try simp only [Act.put, sA, sB, sC, sD, sE, sF]
     refine wpAnyT_tail (by kernel_rfl) ?_
     simp only [List.drop_succ_cons, List.drop_zero]
     have f5 : ∀ i, W3.frozen? ⟨t.b, i, none⟩ = false := fun i => (World.frozen?_of_block (a := ⟨t.b, i, none⟩) ((HG3.out.block t.b (Nat.lt_of_lt_of_le htbr HBa.out.size) hnb1).trans (HBa.out.block t.b htbr))).trans (f5 i)
     have c5 := hHeld.1
     have HGR := Lib.hid (HMD.out.grow (fun q hz => (HX.out.2.2.1 q hz).1) HX.out.2.2.2.1 HX.out.2.2.2.2.2.1 HT.out (HA.out.nz t HT.out) HX.out.2.2.2.2.1 HX.out.2.2.2.2.2.2.1 (HA.out.ne t HT.out) HX.out.2.2.2.2.2.2.2.1 HBa.out HG3.out (idV (ids t.ks[j].b)) HO3.out.1 HO3.out.2)
     have hsub := GT.len_lt hkm
     have htake := GT.blocksL_take hlt
     have hle := GT.subsL_take_le t.ks (j + 1)
     rw [htake, List.length_append, GT.blocks_len] at hle
     have hcm := HMD.out.cnt
     have TL := Lib.hid (IH.out t.ks[j] hkl2 (by omega) (GT.nodup_kid HX.out.1 hlt).1 _ _ cj _ _ HGR.out.1 (fun s hs => by
      have hb := GT.subs_b hs
      have h1 := (GT.nodup_kid HX.out.1 hlt).2 s.b hb
      rw [upd_other _ _ h1.1, HMD.out.out s.b h1.1 h1.2]
      exact HX.out.2.1 s (by rw [GT.subs_eq]; exact List.mem_cons_of_mem _ (GT.mem_subsL hkm s hs))) HGR.out.2.1 HGR.out.2.2.2.1 (fun q hz => ⟨Nat.lt_of_lt_of_le (HX.out.2.2.1 q hz).1 HGR.out.2.2.2.2.size, (HX.out.2.2.1 q hz).2⟩) (fun q hq => by
      rcases hq.1 with h | h
      ·
       exact Nat.lt_of_lt_of_le (HX.out.2.2.2.1 q h) HGR.out.2.2.2.2.size
      ·
       exact h.2) (fun s hs hq => by
      rcases hq.1 with h | h
      ·
       exact HX.out.2.2.2.2.1 s hs h
      ·
       have := HX.out.2.2.2.2.2.1 s hs; omega) hnm (by omega))
     have HBL := Lib.hid (show ∀ b ∈ (t.ks[j]).blocks, b < w.heap.size from fun b hb => by
      obtain ⟨s, hs, rfl⟩ := List.mem_map.1 hb
      exact HX.out.2.2.2.2.2.1 s (Amb.subs HA.out n t HT.out hn s (by rw [GT.subs_eq]; exact List.mem_cons_of_mem _ (GT.mem_subsL hkm s hs))))
     have HLT := Lib.hid hlt
     clear hHeld g3 hha hnb1 hnb2 c9 hsub htake hle hcm hkm hkbr htw hkw
     go_wp2_with fail
     refine TL.out.mono ?_
     rintro e w5 ⟨rfl, hR5⟩
     obtain ⟨κ5, c5', hM5⟩ := LayMid.next HLT.out HX.out.1 HMD.out.out HMD.out.cnt HBL.out HX.out.2.2.2.2.2.2.2.1.2 HGR.out.2.2.1 HGR.out.2.2.2.2 hR5
     have HM5 := Lib.hid hM5
     clear hR5 hM5 HGR TL HMD HBL HO3 HG3 HBa HZa HFR HOL HOW
     go_wp2
     go_roundw
     case rel => exact ⟨j + 1, _, κ5, c5', by go_num, by omega, HM5.out⟩
     case measure => simp [intOf]; omega
    ·
     obtain rfl : j = t.ks.length := by omega
     have hkids : (t.node ids ρ).kids.length = t.ks.length := by simp [GT.node]
     have hnt := hMid.node t HT.out
     obtain ⟨_, _, hht, _⟩ := hnt.open_
     rw [hMid.here] at hht
     have hsl := Sl.of_own hMid.own
     obtain ⟨ka, kc, rfl⟩ := hsl.form
     rw [List.take_length, ← hkids] at hsl
     rw [← hkids] at hht
     have hsl2 : Sl wr wr.heap.size (.slice ka (t.node ids ρ).kids.length kc) (t.node ids ρ).kids.length ((t.node ids ρ).kids.map idV) := by
      have e : t.ks.map (fun k => idV (ids k.b)) = (t.node ids ρ).kids.map idV := by simp [GT.node, List.map_map]
      rw [e] at hsl
      exact hsl
     have har := hMid.ar
     rw [List.take_length] at har
     have hcm := hMid.cnt
     rw [List.take_length] at hcm
     have hido := HID.out t HT.out
     have TP := Lib.hid (put_any _ ab mb cj (layML ids ρ t.ks M) (ids t.b) (t.node ids ρ) ka kc wr.drew (har.below ((Below.refl _ _).drew) (Nat.le_refl _)) (by unfold idTop; omega) (by omega) (.inr (by omega)) (by omega) hsl2 (by omega))
     have k := fun i => cell_of_row wr t.b i _ _ (0, 0) hht
     have k0 := k 0; have k1 := k 1; have k2 := k 2; have k3 := k 3; have k4 := k 4; have k5 := k 5; have k9 := k 9
     simp at k0 k1 k2 k3 k4 k5 k9
     have n0 := hMid.nm.cell0
     have HMD := Lib.hid hMid
     have HCM := Lib.hid hcm
     have hHeld : (fun w' => w'.cell? ⟨nb, 0, none⟩ = some (.pointer (some ⟨ab, 0, none⟩)) ∧ w'.cell? ⟨t.b, 9, none⟩ = some (.int .u64 (ids t.b : Int)) ∧ w'.cell? ⟨t.b, 0, none⟩ = some (.int .u8 (t.nd.kind : Int)) ∧ w'.cell? ⟨t.b, 1, none⟩ = some (strV t.nd.name) ∧ w'.cell? ⟨t.b, 2, none⟩ = some (.int .i64 t.nd.num) ∧ w'.cell? ⟨t.b, 3, none⟩ = some (.int .u8 (t.nd.type : Int)) ∧ w'.cell? ⟨t.b, 4, none⟩ = some (.int .u64 (ρ t.b : Int)) ∧ w'.cell? ⟨t.b, 5, none⟩ = some (.slice ka (t.node ids ρ).kids.length kc)) wr.drew := ⟨n0, k9, k0, k1, k2, k3, k4, k5⟩
     clear hMid hht hsl hsl2 har hcm k hkids hido
     go_wp2
     refine wp_region_two (fun w' => w'.cell? ⟨nb, 0, none⟩ = some (.pointer (some ⟨ab, 0, none⟩)) ∧ w'.cell? ⟨t.b, 9, none⟩ = some (.int .u64 (ids t.b : Int)) ∧ w'.cell? ⟨t.b, 0, none⟩ = some (.int .u8 (t.nd.kind : Int)) ∧ w'.cell? ⟨t.b, 1, none⟩ = some (strV t.nd.name) ∧ w'.cell? ⟨t.b, 2, none⟩ = some (.int .i64 t.nd.num) ∧ w'.cell? ⟨t.b, 3, none⟩ = some (.int .u8 (t.nd.type : Int)) ∧ w'.cell? ⟨t.b, 4, none⟩ = some (.int .u64 (ρ t.b : Int)) ∧ w'.cell? ⟨t.b, 5, none⟩ = some (.slice ka (t.node ids ρ).kids.length kc)) 12 (by kernel_rfl) ?_
     refine tk 0 ?_ rfl (by kernel_rfl) (fun _ _ _ h => h) ‹_› (by rfl) ?_ ?_
     rotate_left
     · (intro w' hSw; (try dsimp only at hSw); go_simp; try with_reducible rfl)
     try simp only [Act.put, sA, sB, sC, sD, sE, sF]
     refine tk 1 ?_ rfl (by kernel_rfl) (fun _ _ _ h => h) ‹_› (by rfl) ?_ ?_
     rotate_left
     · (intro w' hSw; (try dsimp only at hSw); go_simp; try with_reducible rfl)
     try simp only [Act.put, sA, sB, sC, sD, sE, sF]
     refine tk 2 ?_ rfl (by kernel_rfl) (fun _ _ _ h => h) ‹_› (by rfl) ?_ ?_
     rotate_left
     · (intro w' hSw; (try dsimp only at hSw); go_simp; try with_reducible rfl)
     try simp only [Act.put, sA, sB, sC, sD, sE, sF]
     refine tk 3 ?_ rfl (by kernel_rfl) (fun _ _ _ h => h) ‹_› (by rfl) ?_ ?_
     rotate_left
     · (intro w' hSw; (try dsimp only at hSw); go_simp; try with_reducible rfl)
     try simp only [Act.put, sA, sB, sC, sD, sE, sF]
     refine tk 4 ?_ rfl (by kernel_rfl) (fun _ _ _ h => h) ‹_› (by rfl) ?_ ?_
     rotate_left
     · (intro w' hSw; (try dsimp only at hSw); go_simp; try with_reducible rfl)
     try simp only [Act.put, sA, sB, sC, sD, sE, sF]
     refine tk 5 ?_ rfl (by kernel_rfl) (fun _ _ _ h => h) ‹_› (by rfl) ?_ ?_
     rotate_left
     · (intro w' hSw; (try dsimp only at hSw); go_simp; try with_reducible rfl)
     try simp only [Act.put, sA, sB, sC, sD, sE, sF]
     refine tk 6 ?_ rfl (by kernel_rfl) (fun _ _ _ h => h) ‹_› (by rfl) ?_ ?_
     rotate_left
     · (intro w' hSw; (try dsimp only at hSw); go_simp; try with_reducible rfl)
     try simp only [Act.put, sA, sB, sC, sD, sE, sF]
     refine tk 7 ?_ rfl (by kernel_rfl) (fun _ _ _ h => h) ‹_› (by rfl) ?_ ?_
     rotate_left
     · (intro w' hSw; (try dsimp only at hSw); go_simp; try with_reducible rfl)
     try simp only [Act.put, sA, sB, sC, sD, sE, sF]
     refine tk 8 ?_ rfl (by kernel_rfl) (fun _ _ _ h => h) ‹_› (by rfl) ?_ ?_
     rotate_left
     · (intro w' hSw; (try dsimp only at hSw); go_simp; try with_reducible rfl)
     try simp only [Act.put, sA, sB, sC, sD, sE, sF]
     refine tk 9 ?_ rfl (by kernel_rfl) (fun _ _ _ h => h) ‹_› (by rfl) ?_ ?_
     rotate_left
     · (intro w' hSw; (try dsimp only at hSw); go_simp; try with_reducible rfl)
     try simp only [Act.put, sA, sB, sC, sD, sE, sF]
     refine tk 10 ?_ rfl (by kernel_rfl) (fun _ _ _ h => h) ‹_› (by rfl) ?_ ?_
     rotate_left
     · (intro w' hSw; (try dsimp only at hSw); go_simp; try with_reducible rfl)
     try simp only [Act.put, sA, sB, sC, sD, sE, sF]
     refine tk 11 ?_ rfl (by kernel_rfl) (fun _ _ _ h => h) ‹_› (by rfl) ?_ ?_
     rotate_left
     · (intro w' hSw; (try dsimp only at hSw); go_simp; try with_reducible rfl)
     try simp only [Act.put, sA, sB, sC, sD, sE, sF]
     refine wpAnyT_tail (by kernel_rfl) ?_
     simp only [List.drop_succ_cons, List.drop_zero]
     go_wp2_with fail
     refine TP.out.mono ?_
     rintro e w6 ⟨rfl, hA6, hg6⟩
     have HF := Lib.hid (show LayRes l nb Z ids ρ ab mb next fv mv cv uv sv t κ c M Y w w6 from by
      have hm := HMD.out
      have hg6' : wr.grownBy w6 (some mb) := ⟨hg6.os, hg6.tape, hg6.output, hg6.size, hg6.block⟩
      refine ⟨κj, if ((layML ids ρ t.ks M) (ids t.b)).isSome then cj else cj + 1, fun s hs => (hm.node s hs).frr (D := fun q => q = mb) (Fr.of_grown hg6' (fun q e => by injection e with e; exact e.symm)) (fun e => (ar_not_node hm.ar (hm.node s hs)).2 e) (fun q hz e => (HX.out.2.2.1 q hz).2 e), fun b hb => ?_, (hg6'.block nb hm.nm.lt (fun e => by injection e with e; exact hnm e)).trans hm.nm, ?_, ?_, hm.fr.step hg6' (fun q e => .inl (.inr (by injection e with e; exact e.symm)))⟩
      ·
       rw [GT.blocks_eq, List.mem_cons] at hb
       exact hm.out b (fun e => hb (.inl e)) (fun e => hb (.inr (by rw [List.take_length] at e; exact e)))
      ·
       have h1 := HCM.out
       split <;> omega
      ·
       rw [layM_eq]
       refine hA6.imp (fun q hq => ?_)
       rcases hq with ⟨hq, _⟩ | hq
       ·
        exact hq.imp (fun x => x) (fun x => ⟨x.1, Nat.lt_of_lt_of_le x.2 hg6'.size⟩)
       ·
        exact .inr ⟨Nat.le_trans hm.fr.size hq.1, hq.2⟩)
     clear hA6 hg6 HMD TP hHeld
     go_wp2
     go_end0
     exact ⟨rfl, HF.out⟩
end Go.Proofs.YtoelmnamlnbdhaaGreatDoor
namespace Hg
def rowM (rows : List Row) : Nat → Option Node := fun id => (rows.find? (fun r => r.id == id)).map Row.node
theorem refOf_map (ids : Nat → Nat) (b : Nat) (hb : ∀ b', ids b' = ids b → b' = b) : ∀ refs : List (Nat × Nat), refOf (refF ids refs) (ids b) = ((gl refs b).map ids).getD 0
 | [] => rfl
 | (x, y) :: refs => by
   have ih := refOf_map ids b hb refs
   rw [gl_cons]
   unfold refOf at ih ⊢
   show ((((ids x, ids y) :: refF ids refs).find? (·.1 == ids b)).map (·.2)).getD 0 = _
   rw [List.find?_cons]
   by_cases e : x = b
   ·
    subst e
    simp
   ·
    have h1 : (x == b) = false := by simpa using e
    have h2 : (ids x == ids b) = false := by simpa using fun h => e (hb _ h)
    simp only [h1, h2]
    exact ih
theorem find_row : ∀ (rows : List Row), (rows.map Row.id).Nodup → ∀ r ∈ rows, rows.find? (fun x => x.id == r.id) = some r
 | [], _, r, h => by simp at h
 | x :: rows, hn, r, h => by
   rw [List.map_cons, List.nodup_cons] at hn
   rw [List.find?_cons]
   rcases List.mem_cons.1 h with h | h
   ·
    subst h; simp
   ·
    have : (x.id == r.id) = false := by
     simp only [beq_eq_false_iff_ne, ne_eq]
     intro e
     exact hn.1 (by rw [e]; exact List.mem_map.2 ⟨r, h, rfl⟩)
    rw [this]
    exact find_row rows hn.2 r h
end Hg
namespace Go.Proofs.YtoelmnamlnbdhaaGreatDoor
open Go.RowKit
open Hg (GT gl rowM)
theorem setN_out : ∀ (l : List Nat) (ids : Nat → Nat) (n : Nat) (b : Nat), b ∉ l → setN ids n l b = ids b
 | [], ids, n, b, h => rfl
 | x :: l, ids, n, b, h => by
   show setN (upd ids x n) (n + 1) l b = ids b
   rw [setN_out l _ _ b (fun hm => h (List.mem_cons_of_mem _ hm)), upd_other _ _ (fun e => h (by rw [e]; simp))]
theorem setN_get : ∀ (l : List Nat) (ids : Nat → Nat) (n k b : Nat), l.Nodup → l[k]? = some b → setN ids n l b = n + k
 | [], ids, n, k, b, _, h => by simp at h
 | x :: l, ids, n, 0, b, hn, h => by
   simp at h
   subst h
   show setN (upd ids x n) (n + 1) l x = n + 0
   rw [setN_out l _ _ x (List.nodup_cons.1 hn).1, upd_same]
   rfl
 | x :: l, ids, n, k + 1, b, hn, h => by
   show setN (upd ids x n) (n + 1) l b = n + (k + 1)
   rw [setN_get l _ (n + 1) k b (List.nodup_cons.1 hn).2 (by simpa using h)]
   omega
theorem setN_one {l : List Nat} (hn : l.Nodup) {b b' : Nat} (hb : b ∈ l) (h : setN id0 1 l b' = setN id0 1 l b) : b' = b := by
 obtain ⟨k, hk, he⟩ := List.mem_iff_getElem.1 hb
 have h1 : l[k]? = some b := by rw [List.getElem?_eq_getElem hk, he]
 rw [setN_get l id0 1 k b hn h1] at h
 by_cases hm : b' ∈ l
 ·
  obtain ⟨k', hk', he'⟩ := List.mem_iff_getElem.1 hm
  have h2 : l[k']? = some b' := by rw [List.getElem?_eq_getElem hk', he']
  rw [setN_get l id0 1 k' b' hn h2] at h
  have : k' = k := by omega
  subst this
  rw [h1] at h2
  injection h2 with h2
  exact h2.symm
 ·
  rw [setN_out l id0 1 b' hm] at h
  have h : 0 = 1 + k := h
  omega
theorem nodup_map_on {f : Nat → Nat} : ∀ {l : List Nat}, l.Nodup → (∀ x ∈ l, ∀ y ∈ l, f x = f y → x = y) → (l.map f).Nodup
 | [], _, _ => List.nodup_nil
 | x :: l, hn, h => by
   rw [List.nodup_cons] at hn
   rw [List.map_cons, List.nodup_cons]
   refine ⟨fun hm => ?_, nodup_map_on hn.2 (fun a ha b hb => h a (by simp [ha]) b (by simp [hb]))⟩
   obtain ⟨y, hy, e⟩ := List.mem_map.1 hm
   have := h y (by simp [hy]) x (by simp) e
   exact hn.1 (this ▸ hy)
theorem setN_nodup {l : List Nat} (hn : l.Nodup) : (l.map (setN id0 1 l)).Nodup := by
 refine nodup_map_on hn ?_
 intro x hx y hy h
 exact setN_one hn hy h
theorem layM_get (ids ρ : Nat → Nat) : ∀ n (t : GT), t.subs.length ≤ n → (∀ (M : ArM) id, id ∉ t.blocks.map ids → layM ids ρ t M id = M id) ∧ ((t.blocks.map ids).Nodup → ∀ (M : ArM), ∀ s ∈ t.subs, layM ids ρ t M (ids s.b) = some (s.node ids ρ)) := by
 intro n
 induction n with
 | zero => intro t h; rw [GT.subs_eq] at h; simp at h
 | succ n ih =>
   intro t ht
   have key : ∀ (l : List GT), (∀ k ∈ l, k.subs.length ≤ n) → (∀ (M : ArM) id, id ∉ (GT.blocksL l).map ids → layML ids ρ l M id = M id) ∧ (((GT.blocksL l).map ids).Nodup → ∀ (M : ArM), ∀ s ∈ GT.subsL l, layML ids ρ l M (ids s.b) = some (s.node ids ρ)) := by
    intro l
    induction l with
    | nil => intro _; exact ⟨fun M id _ => by rw [layML], fun _ M s hs => by rw [GT.subsL_nil] at hs; simp at hs⟩
    | cons k l ihl =>
      intro hk
      obtain ⟨a1, a2⟩ := ih k (hk k (by simp))
      obtain ⟨b1, b2⟩ := ihl (fun x hx => hk x (by simp [hx]))
      have hbl : GT.blocksL (k :: l) = k.blocks ++ GT.blocksL l := by unfold GT.blocksL GT.blocks; rw [GT.subsL_cons, List.map_append]
      rw [hbl, List.map_append]
      refine ⟨fun M id hid => ?_, fun hn M s hs => ?_⟩
      ·
       rw [layML, b1 _ id (fun h => hid (List.mem_append_right _ h)), a1 M id (fun h => hid (List.mem_append_left _ h))]
      ·
       rw [List.nodup_append] at hn
       rw [GT.subsL_cons] at hs
       rw [layML]
       rcases List.mem_append.1 hs with hs | hs
       ·
        rw [b1 _ _ (fun h => hn.2.2 _ (List.mem_map.2 ⟨s.b, GT.subs_b hs, rfl⟩) _ h rfl)]
        exact a2 hn.1 M s hs
       ·
        exact b2 hn.2.1 _ s hs
   obtain ⟨k1, k2⟩ := key t.ks (fun k hk => by have := GT.len_lt hk; omega)
   refine ⟨fun M id hid => ?_, fun hn M s hs => ?_⟩
   ·
    rw [GT.blocks_eq, List.map_cons, List.mem_cons] at hid
    rw [layM_eq]
    unfold putM
    rw [if_neg (fun e => hid (.inl e))]
    exact k1 M id (fun h => hid (.inr h))
   ·
    rw [GT.blocks_eq, List.map_cons, List.nodup_cons] at hn
    rw [layM_eq]
    unfold putM
    rw [GT.subs_eq] at hs
    rcases List.mem_cons.1 hs with hs | hs
    ·
     subst hs
     rw [if_pos rfl]
    ·
     have hb : s.b ∈ GT.blocksL t.ks := List.mem_map.2 ⟨s, hs, rfl⟩
     rw [if_neg (fun e => hn.1 (by rw [← e]; exact List.mem_map.2 ⟨s.b, hb, rfl⟩))]
     exact k2 hn.2 M s hs
theorem layM_rows (t : GT) (hn : t.blocks.Nodup) (refs : List (Nat × Nat)) :
 layM (setN id0 1 t.blocks) (fun b => ((gl refs b).map (setN id0 1 t.blocks)).getD 0) t rootM = rowM (Hg.layRows (Hg.refF (setN id0 1 t.blocks) refs) (Hg.num 1 t).1) := by
 have hnum := Hg.num_eq (setN id0 1 t.blocks) _ t (Nat.le_refl _) 1 (fun k b hk => setN_get t.blocks id0 1 k b hn hk)
 have hnd := setN_nodup hn
 have h1b : setN id0 1 t.blocks t.b = 1 := by
  have := setN_get t.blocks id0 1 0 t.b hn (by rw [GT.blocks_eq]; rfl)
  simpa using this
 have hone : ∀ s ∈ t.subs, ∀ b', setN id0 1 t.blocks b' = setN id0 1 t.blocks s.b → b' = s.b := fun s hs b' h => setN_one hn (GT.subs_b hs) h
 rw [hnum]
 generalize setN id0 1 t.blocks = ids at hnd h1b hone ⊢
 obtain ⟨g1, g2⟩ := layM_get ids (fun b => ((gl refs b).map ids).getD 0) _ t (Nat.le_refl _)
 have hrows : Hg.layRows (Hg.refF ids refs) (t.map ids) = t.subs.map (fun s => ⟨ids s.b, s.node ids (fun b => ((gl refs b).map ids).getD 0)⟩) := by
  unfold Hg.layRows
  rw [Hg.GT.subs_map ids _ t (Nat.le_refl _), List.map_map]
  refine List.map_congr_left (fun s hs => ?_)
  show Hg.Row.mk (s.map ids).b { (s.map ids).nd with ref := Hg.refOf (Hg.refF ids refs) (s.map ids).b, kids := (s.map ids).ks.map Hg.GT.b } = _
  rw [Hg.GT.map_b, Hg.GT.map_nd, Hg.GT.map_ks, Hg.refOf_map ids s.b (hone s hs), List.map_map]
  have hk : s.ks.map (Hg.GT.b ∘ Hg.GT.map ids) = s.ks.map (fun k => ids k.b) := List.map_congr_left (fun k _ => Hg.GT.map_b ids k)
  rw [hk]
  rfl
 rw [hrows]
 have hids : (t.subs.map (fun s => Hg.Row.mk (ids s.b) (s.node ids (fun b => ((gl refs b).map ids).getD 0)))).map Hg.Row.id = t.blocks.map ids := by
  rw [List.map_map, GT.blocks, List.map_map]
  rfl
 funext id
 unfold rowM
 by_cases hid : id ∈ t.blocks.map ids
 ·
  obtain ⟨b, hb, rfl⟩ := List.mem_map.1 hid
  obtain ⟨s, hs, rfl⟩ := List.mem_map.1 hb
  rw [g2 hnd rootM s hs]
  have := Hg.find_row _ (by rw [hids]; exact hnd) ⟨ids s.b, s.node ids (fun b => ((gl refs b).map ids).getD 0)⟩ (List.mem_map.2 ⟨s, hs, rfl⟩)
  dsimp only at this
  rw [this]
  rfl
 ·
  rw [g1 rootM id hid]
  have hne : id ≠ 1 := fun e => hid (by rw [e, ← h1b]; exact List.mem_map.2 ⟨t.b, by rw [GT.blocks_eq]; simp, rfl⟩)
  have hf : (t.subs.map (fun s => Hg.Row.mk (ids s.b) (s.node ids (fun b => ((gl refs b).map ids).getD 0)))).find? (fun r => r.id == id) = none := by
   rw [List.find?_eq_none]
   intro r hr
   simp only [beq_iff_eq]
   intro e
   exact hid (by rw [← hids, ← e]; exact List.mem_map.2 ⟨r, hr, rfl⟩)
  rw [hf]
  unfold rootM putM
  rw [if_neg hne]
  rfl
end Go.Proofs.YtoelmnamlnbdhaaGreatDoor
namespace Go.Proofs.YtoelmnamlnbdhaaGreatDoor
open Go.RowKit
open Hg (GT gl rowM)
theorem ArAtZ.fr {D : Nat → Prop} {Z : Nat → Prop} {w w' : World} {ab mb c : Nat} {M : Nat → Option Hg.Node} (h : ArAtZ Z w ab mb c M) (hf : Fr D w w') (h1 : ¬ D ab) (h2 : ¬ D mb) (h3 : ∀ q, Z q → ¬ D q) : ArAtZ Z w' ab mb c M := by
 obtain ⟨h0, ⟨E, hw, hc, hk⟩, hbd⟩ := h
 refine ⟨hf.at_ h0 h1, ⟨E, ownsMap_fr hw hf h2, hc, fun id hid => ?_⟩, hbd⟩
 have hx := hk id hid
 cases hM : M id with
 | none => rw [hM] at hx; exact hx
 | some nd =>
   rw [hM] at hx
   obtain ⟨ka, kc, g1, g2, g3⟩ := hx
   exact ⟨ka, kc, g1, (g2.fr (Nat.le_refl _) hf (fun q e => h3 q (g3 q e))).more hf.size, g3⟩
structure GPOk (s : List UInt8) (L : List Hg.Tok) (t0 : GT) : Prop where
 len : s.length ≤ 100000
 toks : Hg.r8all s = some L
 num : NumOk L
 cnt : L.length ≤ 1000000
 prog : Hg.gProg L = some t0
 size : t0.subs.length ≤ 5000
 fine : ∀ x ∈ t0.subs, x.nd.ref = 0 ∧ x.nd.name.length ≤ 1000000 ∧ x.tt.length ≤ 1000000 ∧ x.md.length ≤ 1000000
def GPRes (r : Except Nat (List Hg.Row)) (w : World) (e : Ending) (w' : World) : Prop :=
 Below w.heap.size w w' ∧ match r with
 | .ok rows => ∃ ab mb c, e = .returned (.tuple #[.pointer (some ⟨ab, 0, none⟩), .int .i64 0]) ∧ ArAt w' ab mb c (rowM rows)
 | .error k => e = .returned (.tuple #[.pointer none, .int .i64 (errNo k : Int)])
set_option maxHeartbeats 8000000 in
set_option maxRecDepth 100000 in
theorem gparse_any (s : List UInt8) (L : List Hg.Tok) (t0 : GT) (hG : GPOk s L t0) (w : World) (hTab : TabOk w) (hTP : TabP w) (r : Except Nat (List Hg.Row)) (hr : Hg.gParse s = r) (h0 : r ≠ .error 0) :
 Calls Tryz.prog 5 #[.string ⟨s.toArray⟩] w (GPRes r w) := by
 have T1 := Lib.hid (allT_any s L w hG.len hG.toks hG.num hTab hTP)
 have HG0 := Lib.hid hG
 unfold Hg.gParse at hr
 rw [hG.toks] at hr
 dsimp only at hr
 rw [hG.prog] at hr
 have HTAB := Lib.hid hTab
 have HR := Lib.hid hr
 have H0 := Lib.hid h0
 have hmm := @run_makeMap Tryz.prog
 clear hG hTab hTP hr h0
 go_enter Tryz.func5, Tryz.ntmps5
 go_wp2_with fail
 refine T1.out.mono ?_
 rintro e w1 ⟨a1, c1, rfl, hs1, hb1⟩
 have hpa : PaAt (w1.alloc (.cells #[.slice a1 L.length c1, .int .i64 0, .int .i64 0, .bool false] 40)) w1.heap.size L 0 0 :=
  ⟨⟨(HTAB.out.below hb1 HTAB.out.lt).below ((Below.refl w1.heap.size w1).alloc (Nat.le_refl _) _) (Nat.lt_of_lt_of_le HTAB.out.lt hb1.size), Nat.lt_of_lt_of_le HTAB.out.lt hb1.size⟩, a1, c1, heap_alloc_new w1 _, hs1.alloc (Nat.le_refl _) _⟩
 have hbp : Below w.heap.size w (w1.alloc (.cells #[.slice a1 L.length c1, .int .i64 0, .int .i64 0, .bool false] 40)) := hb1.alloc hb1.size _
 have hlp : w.heap.size ≤ w1.heap.size := hb1.size
 have T2 := Lib.hid (program_any w1.heap.size L HG0.out.cnt t0 _ hpa HG0.out.prog)
 have HBP := Lib.hid hbp
 have hzp : (w1.alloc (.cells #[.slice a1 L.length c1, .int .i64 0, .int .i64 0, .bool false] 40)).heap.size = w1.heap.size + 1 := by simp
 have HZP := Lib.hid hzp
 clear T1 hs1 hb1 hpa hbp hzp
 go_wp2_with fail
 generalize World.alloc w1 _ = WP at T2 HBP HZP ⊢
 refine T2.out.mono ?_
 rintro e w3 ⟨kE, t, rfl, hera, hF3, hp3, hg3⟩
 have c3 : w3.cell? ⟨w1.heap.size, 3, none⟩ = some (.bool false) := by
  obtain ⟨_, a, c, h, _⟩ := hp3
  have := cell_of_row w3 w1.heap.size 3 _ _ (0, 0) h
  simpa using this
 have HF3 := Lib.hid hF3
 have HER := Lib.hid hera
 have HB3 := Lib.hid (show Below w.heap.size w w3 from HBP.out.grown hg3 HBP.out.size (fun k hk => by injection hk with hk; omega))
 have hz3 : WP.heap.size ≤ w3.heap.size := hg3.size
 clear T2 hp3 hg3 hF3 hera
 have T3 := Lib.hid (fun W => new_any (fun _ => False) W)
 go_wp2_with fail
 refine (T3.out _).mono ?_
 rintro e w4 ⟨ab, mb, rfl, hab, hmb, hA4, hb4⟩
 have hsubm : t0.subs = t.subs.map (GT.map (fun _ => 0)) := by rw [← HER.out]; exact Hg.GT.subs_map _ _ t (Nat.le_refl _)
 have hsz : t.subs.length ≤ 5000 := by have := HG0.out.size; rw [hsubm, List.length_map] at this; exact this
 have hfine : ∀ x ∈ t.subs, x.nd.ref = 0 ∧ x.nd.name.length ≤ 1000000 ∧ x.tt.length ≤ 1000000 ∧ x.md.length ≤ 1000000 := fun x hx => by
  have := HG0.out.fine (x.map (fun _ => 0)) (by rw [hsubm]; exact List.mem_map.2 ⟨x, hx, rfl⟩)
  rw [Hg.GT.map_nd, Hg.GT.map_tt, Hg.GT.map_md] at this
  exact this
 have hlw3 : w.heap.size ≤ w3.heap.size := HB3.out.size
 have hsubs : GT.subsL [t] = t.subs := by rw [GT.subsL_cons, GT.subsL_nil, List.append_nil]
 have hF3 := HF3.out
 have hnode3 := hF3.node
 have hlo3 := hF3.lo
 have hnd3 := hF3.nodup
 have hlt3 := hF3.lt
 have hblk : GT.blocksL [t] = t.blocks := by unfold GT.blocksL; rw [hsubs]; rfl
 rw [hsubs] at hnode3
 rw [hblk] at hlo3 hnd3 hlt3
 have hbB : Below w3.heap.size w3 (((w4.alloc (.map #[] 0)).alloc (.map #[] 0)).alloc (.cells (nmCells (.pointer (some ⟨ab, 0, none⟩)) 1 (.map (some w4.heap.size)) (.map (some (w4.heap.size + 1))) (.slice none 0 0) (.map none) (.slice none 0 0)) 51)) :=
  ((hb4.alloc hb4.size _).alloc (by have := hb4.size; simp; omega) _).alloc (by have := hb4.size; simp; omega) _
 have hbB4 : Below w4.heap.size w4 (((w4.alloc (.map #[] 0)).alloc (.map #[] 0)).alloc (.cells (nmCells (.pointer (some ⟨ab, 0, none⟩)) 1 (.map (some w4.heap.size)) (.map (some (w4.heap.size + 1))) (.slice none 0 0) (.map none) (.slice none 0 0)) 51)) :=
  (((Below.refl _ _).alloc (Nat.le_refl _) _).alloc (by simp) _).alloc (by simp; omega) _
 have hzB : (((w4.alloc (.map #[] 0)).alloc (.map #[] 0)).alloc (.cells (nmCells (.pointer (some ⟨ab, 0, none⟩)) 1 (.map (some w4.heap.size)) (.map (some (w4.heap.size + 1))) (.slice none 0 0) (.map none) (.slice none 0 0)) 51)).heap.size = w4.heap.size + 3 := by simp
 have hNB : NmAt (((w4.alloc (.map #[] 0)).alloc (.map #[] 0)).alloc (.cells (nmCells (.pointer (some ⟨ab, 0, none⟩)) 1 (.map (some w4.heap.size)) (.map (some (w4.heap.size + 1))) (.slice none 0 0) (.map none) (.slice none 0 0)) 51)) (w4.heap.size + 1 + 1) (.pointer (some ⟨ab, 0, none⟩)) 1 (.map (some w4.heap.size)) (.map (some (w4.heap.size + 1))) (.slice none 0 0) (.map none) (.slice none 0 0) := by
  have := heap_alloc_new ((w4.alloc (.map #[] 0)).alloc (.map #[] 0)) (.cells (nmCells (.pointer (some ⟨ab, 0, none⟩)) 1 (.map (some w4.heap.size)) (.map (some (w4.heap.size + 1))) (.slice none 0 0) (.map none) (.slice none 0 0)) 51)
  unfold NmAt
  simpa using this
 have hFB : FMap (((w4.alloc (.map #[] 0)).alloc (.map #[] 0)).alloc (.cells (nmCells (.pointer (some ⟨ab, 0, none⟩)) 1 (.map (some w4.heap.size)) (.map (some (w4.heap.size + 1))) (.slice none 0 0) (.map none) (.slice none 0 0)) 51)) w4.heap.size [] := by
  refine (XMap.made 80 fullV w4).keep ?_
  exact (heap_alloc_old _ _ (by simp; omega)).trans (heap_alloc_old _ _ (by simp))
 have hMB : SMap (((w4.alloc (.map #[] 0)).alloc (.map #[] 0)).alloc (.cells (nmCells (.pointer (some ⟨ab, 0, none⟩)) 1 (.map (some w4.heap.size)) (.map (some (w4.heap.size + 1))) (.slice none 0 0) (.map none) (.slice none 0 0)) 51)) (w4.heap.size + 1) [] := by
  have h := XMap.made 9 strV (w4.alloc (.map #[] 0))
  rw [show (w4.alloc (.map #[] 0)).heap.size = w4.heap.size + 1 by simp] at h
  exact h.keep (heap_alloc_old _ _ (by simp))
 have hAB := hA4.below hbB4 (Nat.le_refl _)
 have h34 := hb4.size
 have hab4 := hA4.lts
 have hGB : ∀ s ∈ t.subs, NodeAt (((w4.alloc (.map #[] 0)).alloc (.map #[] 0)).alloc (.cells (nmCells (.pointer (some ⟨ab, 0, none⟩)) 1 (.map (some w4.heap.size)) (.map (some (w4.heap.size + 1))) (.slice none 0 0) (.map none) (.slice none 0 0)) 51)) id0 nilK (fun q => WP.heap.size ≤ q ∧ q < w3.heap.size ∧ q ∉ GT.blocksL [t] ∧ ¬ False) s := fun s hs =>
  (hnode3 s hs).fr (Fr.of_below hbB : Fr (fun _ => False) w3 _) (fun h => h) (fun _ _ h => h)
 have hFRB := Lib.hid ((Fr.of_below (HB3.out.mono (Nat.le_refl _)) : Fr (fun q => w.heap.size ≤ q) w w3).step (below_grown50 hbB none) (fun q e => by cases e))
 generalize hZd : (fun q => WP.heap.size ≤ q ∧ q < w3.heap.size ∧ q ∉ GT.blocksL [t] ∧ ¬ False) = Z at hGB
 have hZl : ∀ q, Z q → q < w3.heap.size := fun q h => by rw [← hZd] at h; exact h.2.1
 have hZb : ∀ q, Z q → q ∉ t.blocks := fun q h => by rw [← hZd, hblk] at h; exact h.2.2.1
 have hAmb : Amb t.subs (w4.heap.size + 1 + 1) Z := ⟨GT.closed t, fun s hs hz => hZb _ hz (GT.subs_b hs), fun hz => by have := hZl _ hz; omega, fun s hs e => by have := hlt3 _ (GT.subs_b hs); omega⟩
 have T4 := Lib.hid (number_any t.subs (w4.heap.size + 1 + 1) Z hAmb nilK _ _ _ _ _ _ t.subs.length t (GT.self_mem t) (Nat.le_refl _) id0 1 _ hGB hNB (by omega))
 have HAMB := Lib.hid hAmb
 have HZ := Lib.hid (And.intro hZl hZb)
 have HND := Lib.hid (And.intro hlo3 (And.intro hnd3 hlt3))
 have HFN := Lib.hid hfine
 have HMP := Lib.hid (And.intro hFB (And.intro hMB hAB))
 have HAB4 := Lib.hid hab4
 have HZB := Lib.hid hzB
 have HNB := Lib.hid hNB
 have hr := HR.out
 rw [← HER.out, Hg.num_map] at hr
 have hnum := Hg.num_eq (setN id0 1 t.blocks) _ t (Nat.le_refl _) 1 (fun k b hk => setN_get t.blocks id0 1 k b hnd3 hk)
 obtain ⟨rt, hrt⟩ : ∃ rt, Hg.nAll t = rt := ⟨_, rfl⟩
 have hall : Hg.nAll (Hg.num 1 t).1 = rt.map (Hg.refF (setN id0 1 t.blocks)) := by rw [hnum, ← hrt]; exact Hg.nAll_map _ t
 rw [hall] at hr
 have h0t : rt ≠ .error 0 := fun e => by
  rw [e] at hr
  exact H0.out hr.symm
 have HR2 := Lib.hid hr
 have HRT := Lib.hid (And.intro hrt h0t)
 clear hF3 hnode3 hlo3 hnd3 hlt3 hZd hZl hZb hAmb hbB hbB4 hzB hNB hFB hMB hAB hGB hA4 hb4 hfine HF3 T3 hsubs hblk hab4 hsubm hr hnum hrt hall h0t c3
 go_wp2_with fail
 refine T4.out.mono ?_
 rintro e w5 ⟨rfl, hG5, hN5, hf5⟩
 have hzb := HZB.out
 have hab4 := HAB4.out
 have hin : ∀ q, InB t.subs (w4.heap.size + 1 + 1) q → q = w4.heap.size + 1 + 1 ∨ (WP.heap.size ≤ q ∧ q < w3.heap.size) := fun q h => by
  rcases h with h | ⟨x, hx, h⟩
  ·
   exact .inl h
  ·
   exact .inr ⟨h ▸ HND.out.1 _ (GT.subs_b hx), h ▸ HND.out.2.2 _ (GT.subs_b hx)⟩
 have hwp : w.heap.size ≤ WP.heap.size := HBP.out.size
 have HFR5 := Lib.hid (hFRB.out.then_ hf5 (fun q _ e => by rcases hin q e with h | h <;> omega))
 have hF5 : FMap w5 w4.heap.size [] := HMP.out.1.keep (hf5.block _ HMP.out.1.lt (fun e => by rcases hin _ e with h | h <;> omega))
 have hM5 : SMap w5 (w4.heap.size + 1) [] := HMP.out.2.1.keep (hf5.block _ HMP.out.2.1.lt (fun e => by rcases hin _ e with h | h <;> omega))
 have HA5 := Lib.hid (HMP.out.2.2.fr hf5 (fun e => by rcases hin _ e with h | h <;> omega) (fun e => by rcases hin _ e with h | h <;> omega) (fun q h => h.elim))
 have hsz5 : w4.heap.size + 3 ≤ w5.heap.size := by have := hf5.size; omega
 have HNE := Lib.hid (show ∀ s ∈ t.subs, WP.heap.size ≤ s.b ∧ s.b < w3.heap.size from fun s hs => ⟨HND.out.1 _ (GT.subs_b hs), HND.out.2.2 _ (GT.subs_b hs)⟩)
 have HLW := Lib.hid (show Low t.subs (w4.heap.size + 1 + 1) Z (w4.heap.size + 3) from ⟨fun s hs => by have := (HNE.out s hs).2; omega, by omega, fun q hz => by have := HZ.out.1 q hz; omega⟩)
 have hNB5 : NB t.subs (w4.heap.size + 1 + 1) Z (w4.heap.size + 3) (setN id0 1 t.blocks) (.pointer (some ⟨ab, 0, none⟩)) (1 + t.subs.length) w4.heap.size (.map (some (w4.heap.size + 1))) (.slice none 0 0) (fun _ => 0) ⟨[], [], [], []⟩ [] w5 :=
  ⟨⟨_, _, hN5⟩, hF5, by omega, ⟨rfl, .inl ⟨rfl, rfl⟩⟩, fun s hs => by
   show NodeAt w5 (setN id0 1 t.blocks) nilK Z (s.rf (fun _ => 0))
   rw [Hg.GT.rf_zero (HFN.out s hs).1]
   exact hG5 s hs, fun b => rfl, fun c h => by simp at h, fun p h => by simp at h, hsz5⟩
 have T5 := Lib.hid (all_any t.subs (w4.heap.size + 1 + 1) Z (w4.heap.size + 3) HLW.out HAMB.out _ _ _ w4.heap.size (w4.heap.size + 1) (fun hz => by have := HZ.out.1 _ hz; omega) (fun hz => by have := HZ.out.1 _ hz; omega) (by omega) (by omega) (fun x hx => ⟨(HFN.out x hx).2.1, (HFN.out x hx).2.2.1⟩) (fun x hx => (HFN.out x hx).2.2.2) t (GT.self_mem t) (by omega) rt HRT.out.1 HRT.out.2 _ w5 hNB5 hM5)
 have n1 : w5.cell? ⟨w4.heap.size + 1 + 1, 1, none⟩ = some (.int .u64 ((1 + t.subs.length : Nat) : Int)) := by
  have := cell_of_row w5 (w4.heap.size + 1 + 1) 1 _ _ (0, 0) hN5
  simpa using this
 have hq1 : decide (20001 < ((1 + t.subs.length : Nat) : Int)) = false := by simp; omega
 have hq2 : decide (20001 < 1 + t.subs.length) = false := by simp; omega
 have hq3 : decide ((20001 : Int) < 1 + (t.subs.length : Int)) = false := by simp; omega
 clear T4 hG5 hf5 hin hF5 hM5 hN5 HMP hFRB hNB5
 go_wp2_with fail
 refine T5.out.mono ?_
 rintro e w6 ⟨hf6, hres⟩
 have hD : ∀ q, (NOwn t.subs (w4.heap.size + 1 + 1) (w4.heap.size + 3) q ∨ q = w4.heap.size ∨ q = w4.heap.size + 1) → (WP.heap.size ≤ q ∧ q < w3.heap.size) ∨ w4.heap.size ≤ q := fun q e => by
  rcases e with ((e | ⟨x, hx, e⟩) | e) | e | e
  ·
   omega
  ·
   exact .inl (e ▸ HNE.out x hx)
  ·
   omega
  ·
   omega
  ·
   omega
 have HFR6 := Lib.hid (HFR5.out.then_ hf6 (fun q _ e => by rcases hD q e with h | h <;> omega))
 have hr2 := HR2.out
 have hb6 : Below w.heap.size w w6 := HFR6.out.below (fun q h h' => by omega)
 cases rt with
 | error k =>
   have hres : e = .returned (.int .i64 (errNo k : Int)) := hres
   have hre : r = .error k := hr2.symm
   subst hres
   subst hre
   have hq : ((errNo k : Int) != 0) = true := by unfold errNo; split <;> rfl
   have HB6 := Lib.hid hb6
   clear T5 hf6 hD hb6 hr2
   go_wp2
   exact bodyPost_ret (v := .tuple #[.pointer none, .int .i64 (errNo k : Int)]) (by simp [results, Tryz.results5, go_sem]) rfl ⟨HB6.out, rfl⟩
 | ok refs =>
   obtain ⟨rfl, cv6, uv6, sv6, hN6, hG6⟩ := hres
   have hre : r = .ok (Hg.layRows (Hg.refF (setN id0 1 t.blocks) refs) (Hg.num 1 t).1) := hr2.symm
   have hA6 := HA5.out.fr hf6 (fun e => by rcases hD _ e with h | h <;> omega) (fun e => by rcases hD _ e with h | h <;> omega) (fun q h => h.elim)
   have hids : ∀ s ∈ t.subs, 0 < setN id0 1 t.blocks s.b ∧ setN id0 1 t.blocks s.b ≤ 1000000 := fun s hs => by
    obtain ⟨k, hk, he⟩ := List.mem_iff_getElem.1 (GT.subs_b hs)
    rw [setN_get t.blocks id0 1 k s.b HND.out.2.1 (by rw [List.getElem?_eq_getElem hk, he])]
    rw [GT.blocks_len] at hk
    omega
   have hw36 : w3.heap.size ≤ w6.heap.size := by have := hA6.lts; omega
   have T6 := Lib.hid (lay_any t.subs (w4.heap.size + 1 + 1) Z HAMB.out (setN id0 1 t.blocks) (fun b => ((gl refs b).map (setN id0 1 t.blocks)).getD 0) ab mb _ _ _ _ _ _ hids t.subs.length t (GT.self_mem t) (Nat.le_refl _) HND.out.2.1 nilK w6 1 rootM (fun _ => False) hG6 (fun _ _ => rfl) hN6 hA6 (fun q hz => by have := HZ.out.1 q hz; omega) (fun q h => h.elim) (fun s _ h => h) (by omega) (by omega))
   subst hre
   have HEND := Lib.hid (layM_rows t HND.out.2.1 refs)
   clear T5 hN6 hf6 hA6 hG6 hids HA5 HFR5 hb6 hr2 hD HR2 HRT
   go_wp2_with fail
   refine T6.out.mono ?_
   rintro e w7 ⟨rfl, κ7, c7, hG7, hκ7, hN7, hc7, hA7, hf7⟩
   have n0 := hN7.cell0
   have HFIN := Lib.hid (show Below w.heap.size w w7 ∧ ArAt w7 ab mb c7 (layM (setN id0 1 t.blocks) (fun b => ((gl refs b).map (setN id0 1 t.blocks)).getD 0) t rootM) from ⟨(HFR6.out.then_ hf7 (fun q _ e => by
    rcases e with e | e
    ·
     have := HND.out.1 q e; omega
    ·
     omega)).below (fun q h h' => by omega), hA7.weak⟩)
   clear T6 hG7 hκ7 hN7 hc7 hA7 hf7 HFR6
   go_wp2
   exact bodyPost_ret (v := .tuple #[.pointer (some ⟨ab, 0, none⟩), .int .i64 0]) (by simp [results, Tryz.results5, go_sem]) rfl ⟨HFIN.out.1, ab, mb, c7, rfl, by rw [← HEND.out]; exact HFIN.out.2⟩
end Go.Proofs.YtoelmnamlnbdhaaGreatDoor
