/-
  Part of a proof: contracts of functions that the claim reaches, and plain lemmas.
-/
import Derived.Test.YtihmbbkppkgcmaaGreatDoorProg
import Derived.Test.YtihmbbkppkgcmaaGreatDoorKcAF
import Derived.Test.YtihmbbkppkgcmaaGreatDoorKcAA
import Derived.WalkKit
import Derived.WalkSpells
import Derived.WalkLawsBesides
import Derived.Outline
set_option linter.all false
namespace Go.Proofs.YtihmbbkppkgcmaaGreatDoor
open Go.RowKit
theorem parentOf_skip : ∀ (l : List Hg.Row) (id k : Nat), (∀ (j : Nat) (r : Hg.Row), j < k → l[j]? = some r → r.node.kids.findIdx? (· == id) = none) → Hg.parentOf l id = Hg.parentOf (l.drop k) id
 | _, _, 0, _ => rfl
 | [], id, k + 1, _ => by simp
 | r :: rs, id, k + 1, h => by
   rw [Hg.parentOf, h 0 r (by omega) rfl]
   simp only [List.drop_succ_cons]
   exact parentOf_skip rs id k fun j r' hj hr => h (j + 1) r' (by omega) (by simpa using hr)
theorem parentOf_hit (l : List Hg.Row) (id k m : Nat) (r : Hg.Row) (hr : l[k]? = some r) (hno : ∀ (j : Nat) (r : Hg.Row), j < k → l[j]? = some r → r.node.kids.findIdx? (· == id) = none)
 (h : r.node.kids.findIdx? (· == id) = some m) : Hg.parentOf l id = (r.id, m) := by
 rw [parentOf_skip l id k hno]
 obtain ⟨hk, he⟩ := List.getElem?_eq_some_iff.1 hr
 rw [List.drop_eq_getElem_cons hk, he, Hg.parentOf, h]
theorem parentOf_miss (l : List Hg.Row) (id : Nat) (hno : ∀ (j : Nat) (r : Hg.Row), j < l.length → l[j]? = some r → r.node.kids.findIdx? (· == id) = none) : Hg.parentOf l id = (0, 0) := by
 rw [parentOf_skip l id l.length hno]; simp [Hg.parentOf]
theorem findIdx_hit (l : List Nat) (id k : Nat) (hk : k < l.length) (h : l[k] = id) (hno : ∀ j, (hj : j < k) → l[j]'(by omega) ≠ id) : l.findIdx? (· == id) = some k := by
 rw [List.findIdx?_eq_some_iff_getElem]
 exact ⟨hk, by simpa using h, fun j hj => by simpa using hno j hj⟩
theorem findIdx_miss (l : List Nat) (id : Nat) (hno : ∀ j, (hj : j < l.length) → l[j] ≠ id) : l.findIdx? (· == id) = none := by
 rw [List.findIdx?_eq_none_iff]
 intro x hx
 obtain ⟨j, hj, he⟩ := List.mem_iff_getElem.1 hx
 have := hno j hj
 rw [he] at this
 simpa using this
set_option maxHeartbeats 800000 in
theorem parent_any (B : Nat) (v : Value) (l : List Hg.Row) (id : Nat) (w : World) (hB : B ≤ w.heap.size) (hx : RowsAt w B v l) (hl : l.length ≤ 1000000000)
 (hkl : ∀ (j : Nat) (r : Hg.Row), l[j]? = some r → r.node.kids.length ≤ 1000000000) :
 Calls Tryz.prog 8 #[v, .int .u64 id] w fun e w' => e = .returned (.tuple #[.int .u64 (Hg.parentOf l id).1, .int .i64 (Hg.parentOf l id).2]) ∧ Below w.heap.size w w' := by
 have hX := Lib.hid hx
 have hKL := Lib.hid hkl
 obtain ⟨a, c, rfl, hc⟩ := hx.open_
 clear hx hc hkl
 go_enter Tryz.func8, Tryz.ntmps8
 go_wp2
 go_loopw [12] (fun i wr => ∃ k : Nat, k ≤ l.length ∧ i = .int .i64 k ∧ Below w.heap.size w wr ∧ ∀ (j : Nat) (r : Hg.Row), j < k → l[j]? = some r → r.node.kids.findIdx? (· == id) = none) (fun i wr => l.length - (intOf i).toNat)
 case atStart => exact ⟨0, by omega, rfl, Below.refl _ _, fun j r hj => by omega⟩
 case round =>
  obtain ⟨k, hk, rfl, hb, hno⟩ := hrel
  have HN := Lib.hid hno
  clear hno
  by_cases hlt : k < l.length
  ·
   obtain ⟨a', c', he, hc⟩ := (hX.out.below hb hB).open_
   obtain ⟨b, o, ha, hbB, hcell⟩ := hc (by omega)
   obtain ⟨rfl, rfl⟩ : a' = a ∧ c' = c := by injection he with h1 h2 h3; exact ⟨h1.symm, h3.symm⟩
   clear he hc
   subst ha
   have hrk : l[k]? = some l[k] := List.getElem?_eq_getElem hlt
   obtain ⟨ka, kc, hkid, h0, h1, h2, h3, h4, h5, h6⟩ := hcell k l[k] hrk
   have hkl := hKL.out k l[k] hrk
   have HRK := Lib.hid hrk
   have HKID := Lib.hid hkid
   clear hcell hrk hkid
   generalize l[k] = r at *
   go_wp2
   have hb2 := hb.alloc hb.size (.cells #[.int .u64 (r.id : Int), .int .u8 (r.node.kind : Int), .string ⟨r.node.name.toArray⟩, .int .i64 r.node.num, .int .u8 (r.node.type : Int), .int .u64 (r.node.ref : Int), .slice ka r.node.kids.length kc] 33)
   have hs2 := HKID.out.alloc (Nat.le_trans hB hb.size) (.cells #[.int .u64 (r.id : Int), .int .u8 (r.node.kind : Int), .string ⟨r.node.name.toArray⟩, .int .i64 r.node.num, .int .u8 (r.node.type : Int), .int .u64 (r.node.ref : Int), .slice ka r.node.kids.length kc] 33)
   have hf0 : (wr.alloc (.cells #[.int .u64 (r.id : Int), .int .u8 (r.node.kind : Int), .string ⟨r.node.name.toArray⟩, .int .i64 r.node.num, .int .u8 (r.node.type : Int), .int .u64 (r.node.ref : Int), .slice ka r.node.kids.length kc] 33)).cell? ⟨wr.heap.size, 0, none⟩ = some (.int .u64 (r.id : Int)) := by simp [go_sem]
   generalize World.alloc wr _ = W1 at hb2 hs2 hf0 ⊢
   have HS2 := Lib.hid hs2
   clear hs2 h0 h1 h2 h3 h4 h5 h6
   go_loop [20] (fun i => ∃ m : Nat, m ≤ r.node.kids.length ∧ i = .int .i64 m ∧ ∀ j, j < m → (hj : j < r.node.kids.length) → r.node.kids[j] ≠ id) (fun i => r.node.kids.length - (intOf i).toNat)
   case atStart => exact ⟨0, by omega, rfl, fun j hj => by omega⟩
   case round =>
    obtain ⟨m, hm, rfl, hnm⟩ := hrel
    have HM := Lib.hid hnm
    clear hnm
    by_cases hlm : m < r.node.kids.length
    ·
     obtain ⟨a1, c1, he1, hc1⟩ := HS2.out.ids
     obtain ⟨b1, o1, ha1, _, hcell1⟩ := hc1 (by omega)
     obtain ⟨rfl, rfl⟩ : a1 = ka ∧ c1 = kc := by injection he1 with h1 h2 h3; exact ⟨h1.symm, h3.symm⟩
     clear he1 hc1
     subst ha1
     have hcm := hcell1 m hlm
     clear hcell1
     by_cases hid : r.node.kids[m] = id
     ·
      have hq : ((r.node.kids[m] : Int) == (id : Int)) = true := by simp [hid]
      have HI := Lib.hid hid
      clear hid
      have hp := Lib.hid (parentOf_hit l id k m r HRK.out HN.out (findIdx_hit _ id m hlm HI.out fun j hj => HM.out j hj (by omega)))
      go_wp2
      go_ret2
      exact ⟨by rw [hp.out]; rfl, hb2⟩
     ·
      have hq : ((r.node.kids[m] : Int) == (id : Int)) = false := by simp; omega
      have HI := Lib.hid hid
      clear hid
      go_wp2
      go_round
      case rel => exact ⟨m + 1, by omega, by go_num, fun j hj hj2 => by
       by_cases e : j = m
       ·
        subst e; exact HI.out
       ·
        exact HM.out j (by omega) hj2⟩
      case measure => simp [intOf]; omega
    ·
     obtain rfl : m = r.node.kids.length := by omega
     go_wp2
     go_roundw
     case rel => exact ⟨k + 1, by omega, by go_num, hb2, fun j r' hj hr => by
      by_cases e : j = k
      ·
       subst e; rw [HRK.out] at hr; injection hr with hr; rw [← hr]; exact findIdx_miss _ id fun j hj => HM.out j hj hj
      ·
       exact HN.out j r' (by omega) hr⟩
     case measure => simp [intOf]; omega
  ·
   obtain rfl : k = l.length := by omega
   have hp := Lib.hid (parentOf_miss l id HN.out)
   go_wp2
   go_ret2
   exact ⟨by rw [hp.out]; rfl, hb⟩
end Go.Proofs.YtihmbbkppkgcmaaGreatDoor
