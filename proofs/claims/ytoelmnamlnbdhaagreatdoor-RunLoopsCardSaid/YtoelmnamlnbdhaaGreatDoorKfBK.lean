/-
  Part of a proof of RunLoops: contracts of functions that the claim reaches, and plain lemmas.
-/
import Derived.Test.YtoelmnamlnbdhaaGreatDoorKfBJ
import Derived.Test.YtoelmnamlnbdhaaGreatDoorKfAP
import Derived.Test.YtoelmnamlnbdhaaGreatDoorKfAA
set_option linter.all false
namespace Go.Proofs.YtoelmnamlnbdhaaGreatDoor
open Go.RowKit
open Hg (GT gl wk isK ndAt kidsK)
theorem ownsRow_take {w : World} {base : Nat} {e : TypeId} {g n cap m : Nat} {xs : List Value} (h : w.ownsRow base e 1 (.slice (some ⟨g, 0, none⟩) n cap) n xs) (hm : m ≤ n) : w.ownsRow base e 1 (.slice (some ⟨g, 0, none⟩) m cap) m (xs.take m) := by
 obtain ⟨h1, h2⟩ := h
 refine ⟨by simp; omega, ?_⟩
 rcases h2 with ⟨h2, _⟩ | ⟨g', cap', cur, hv, hg, hh, hc1, hc2, hc3, ht⟩
 ·
  cases h2
 ·
  injection hv with e1 e2 e3
  injection e1 with e1
  injection e1 with e1
  subst e1
  subst e3
  refine .inr ⟨g, cap, cur, rfl, hg, hh, by omega, hc2, hc3, ?_⟩
  rw [← ht, List.take_take]
  congr 1
  omega
theorem ownsRow_setCells {base : Nat} {e : TypeId} {g n cap : Nat} {xs : List Value} : ∀ (vs : List Value) (o : Nat) (w : World), w.ownsRow base e 1 (.slice (some ⟨g, 0, none⟩) n cap) n xs → n ≤ o → (w.setCells g o vs).ownsRow base e 1 (.slice (some ⟨g, 0, none⟩) n cap) n xs ∧ Fr (fun q => q = g) w (w.setCells g o vs)
 | [], _, w, h, _ => ⟨h, Fr.refl _ _⟩
 | v :: vs, o, w, h, ho => by
   have h1 := (h.stored o v).1
   rw [List.set_eq_of_length_le (by have := h.1; simp at this; omega)] at h1
   obtain ⟨a, b⟩ := ownsRow_setCells vs (o + 1) (w.setCell ⟨g, o, none⟩ v) h1 (by omega)
   exact ⟨a, ((Fr.refl (fun q => q = g) w).set (p := ⟨g, o, none⟩) (.inl rfl) v).trans b⟩
structure DelSt (p : Nat → Bool) (xs : List Nat) (i j : Nat) (ys : List Nat) : Prop where
 len : ys.length = xs.length
 lt : i < j
 le : j ≤ xs.length
 kept : ys.take i = (xs.take j).filter p
 rest : ys.drop j = xs.drop j
theorem DelSt.skip {p : Nat → Bool} {xs ys : List Nat} {i j x : Nat} (h : DelSt p xs i j ys) (hx : xs[j]? = some x) (hp : p x = false) : DelSt p xs i (j + 1) ys := by
 have hj : j < xs.length := (List.getElem?_eq_some_iff.1 hx).1
 refine ⟨h.len, by have := h.lt; omega, by omega, ?_, ?_⟩
 ·
  rw [h.kept, List.take_succ, hx, List.filter_append]
  simp [hp]
 ·
  rw [← List.drop_drop, h.rest, List.drop_drop]
theorem DelSt.keep {p : Nat → Bool} {xs ys : List Nat} {i j x : Nat} (h : DelSt p xs i j ys) (hx : xs[j]? = some x) (hp : p x = true) : DelSt p xs (i + 1) (j + 1) (ys.set i x) := by
 have hj : j < xs.length := (List.getElem?_eq_some_iff.1 hx).1
 have hij := h.lt
 refine ⟨by simp [h.len], by omega, by omega, ?_, ?_⟩
 ·
  rw [List.take_succ, List.take_set_of_le (Nat.le_refl _), h.kept, List.take_succ, hx, List.filter_append]
  rw [List.getElem?_set_self (by rw [h.len]; omega)]
  simp [hp]
 ·
  rw [List.drop_set_of_lt (by omega), ← List.drop_drop, h.rest, List.drop_drop]
set_option maxHeartbeats 4000000 in
set_option maxRecDepth 100000 in
theorem delF_any (ab mb c : Nat) (M : Nat → Option Hg.Node) (kind b1 b2 : Nat) (v : Value) (xs : List Nat) (B : Nat) (w : World) (hA : ∀ W, Fr (fun q => v.ownBlock = some q) w W → ArAt W ab mb c M) (h1 : w.cell? ⟨b1, 0, none⟩ = some (.pointer (some ⟨ab, 0, none⟩))) (h2 : w.cell? ⟨b2, 0, none⟩ = some (.int .u8 (kind : Int))) (hb1 : b1 < w.heap.size ∧ v.ownBlock ≠ some b1) (hb2 : b2 < w.heap.size ∧ v.ownBlock ≠ some b2) (hx : ∀ x ∈ xs, x < idTop)
 (ho : w.ownsRow B 45 1 v xs.length (xs.map idV)) (hl : xs.length ≤ 1000000) :
 Calls Tryz.prog 72 #[v, .func (.func 73) #[] #[.pointer (some ⟨b1, 0, none⟩), .pointer (some ⟨b2, 0, none⟩)]] w fun e w' => (∃ v', e = .returned v' ∧ w'.ownsRow B 45 1 v' (xs.filter (isK M kind)).length ((xs.filter (isK M kind)).map idV)) ∧ Fr (fun q => v.ownBlock = some q) w w' := by
 have hv0 : ∀ W : World, (zeroValue 45).run Tryz.prog W = .ok (.int .u64 0) W := fun W => by kernel_rfl
 have T1 := Lib.hid (idxF_any ab mb c M kind b1 b2 v xs B w (hA w (Fr.refl _ _)) h1 h2 hb1.1 hb2.1 hx (Sl.of_own ho) hl)
 obtain ⟨a, cc, rfl⟩ := (Sl.of_own ho).form
 have HO := Lib.hid ho
 have HA := Lib.hid hA
 have HC := Lib.hid (And.intro h1 (And.intro h2 (And.intro hb1 hb2)))
 have HX := Lib.hid hx
 clear ho hA h1 h2 hx hb1 hb2
 go_enter Tryz.func72, Tryz.ntmps72
 go_wp2_with fail
 refine T1.out.mono ?_
 rintro e w1 ⟨⟨r, rfl, hr⟩, hbw⟩
 have hf1 : Fr (fun q => (Value.slice a xs.length cc).ownBlock = some q) w w1 := Fr.of_below hbw
 have HO1 := Lib.hid (show w1.ownsRow B 45 1 (.slice a xs.length cc) xs.length (xs.map idV) from ownsRow_fr HO.out (Fr.of_below (D := fun _ => False) hbw) (fun _ _ e => e))
 have HF1 := Lib.hid hf1
 clear T1 hbw hf1
 rcases hr with ⟨rfl, hall⟩ | ⟨i0, rfl, x0, hx0, hp0, hbef⟩
 ·
  have hfil : xs.filter (isK M kind) = xs := List.filter_eq_self.2 hall
  clear hall
  go_wp2
  go_ret
  rw [hfil]
  exact ⟨⟨_, rfl, HO1.out⟩, HF1.out⟩
 ·
  have hi0 : i0 < xs.length := (List.getElem?_eq_some_iff.1 hx0).1
  obtain ⟨g, rfl⟩ : ∃ g, a = some ⟨g, 0, none⟩ := by
   rcases HO.out.2 with ⟨_, h⟩ | ⟨g, cap, cur, hv, _⟩
   ·
    omega
   ·
    injection hv with h1 h2 h3; exact ⟨g, h1⟩
  have hst0 : DelSt (isK M kind) xs i0 (i0 + 1) xs := by
   refine ⟨rfl, by omega, by omega, ?_, rfl⟩
   rw [List.take_succ, hx0, List.filter_append]
   have h1 : (xs.take i0).filter (isK M kind) = xs.take i0 := List.filter_eq_self.2 (fun y hy => by
    obtain ⟨k, hk, e⟩ := List.mem_iff_getElem.1 hy
    rw [List.length_take] at hk
    rw [List.getElem_take] at e
    exact hbef k y (by omega) (by rw [List.getElem?_eq_getElem (by omega), e]))
   rw [h1]
   simp [hp0]
  have HST := Lib.hid hst0
  have hq : ((i0 : Int) == -1) = false := by simp
  have hwi : IntKind.i64.wrap ((i0 : Int) + 1) = ((i0 + 1 : Nat) : Int) := by rw [IntWalk.i64_in _ (by omega)]; push_cast; rfl
  have hcap : xs.length ≤ cc := (by obtain ⟨c9, e, h, _⟩ := own_form HO.out rfl; injection e with _ _ e; omega)
  clear hst0 hbef hp0 hx0
  go_wp2
  go_loopw [5, 6] (fun p q wr => ∃ (i j : Nat) (ys : List Nat), p = .int .i64 (i : Int) ∧ q = .int .i64 (j : Int) ∧ DelSt (isK M kind) xs i j ys ∧ wr.ownsRow B 45 1 (.slice (some ⟨g, 0, none⟩) xs.length cc) xs.length (ys.map idV) ∧ Fr (fun q => (Value.slice (some ⟨g, 0, none⟩) xs.length cc).ownBlock = some q) w wr) (fun _ q wr => xs.length - (intOf q).toNat)
  case atStart => exact ⟨i0, i0 + 1, xs, rfl, by first | rfl | go_num, HST.out, HO1.out, HF1.out⟩
  case round =>
   obtain ⟨i, j, ys, rfl, rfl, hD, ho, hf⟩ := hrel
   have hij := hD.lt
   have hjl := hD.le
   by_cases hlt : j < xs.length
   ·
    obtain ⟨x, hxj⟩ : ∃ x, xs[j]? = some x := ⟨_, List.getElem?_eq_getElem hlt⟩
    have hyj : ys[j]? = some x := by
     have h := congrArg (fun l => l[0]?) hD.rest
     simpa [hxj] using h
    have cj : wr.cell? ⟨g, j, none⟩ = some (idV x) := by rw [ho.cellAt j (by omega)]; simp [hyj]
    have fz : ∀ k, wr.frozen? ⟨g, k, none⟩ = false := ho.frozenAt
    have hxx : x ∈ xs := List.mem_of_getElem? hxj
    have TI := Lib.hid (kid1_any ab mb c M x kind b1 b2 wr (HA.out wr hf) ((hf.cell (p := ⟨b1, 0, none⟩) HC.out.2.2.1.1 HC.out.2.2.1.2).trans HC.out.1) ((hf.cell (p := ⟨b2, 0, none⟩) HC.out.2.2.2.1 HC.out.2.2.2.2).trans HC.out.2.1) (Nat.lt_of_lt_of_le HC.out.2.2.2.1 hf.size) (HX.out x hxx))
    have HD := Lib.hid hD
    have HOw := Lib.hid ho
    have HFw := Lib.hid hf
    have HXJ := Lib.hid hxj
    have hwj : IntKind.i64.wrap ((j : Int) + 1) = (j : Int) + 1 := IntWalk.i64_in _ (by omega)
    have hwi : IntKind.i64.wrap ((i : Int) + 1) = (i : Int) + 1 := IntWalk.i64_in _ (by omega)
    have hil : i < xs.length := by omega
    have ci : ∃ u, wr.cell? ⟨g, i, none⟩ = some u := by
     have : i < ys.length := by rw [hD.len]; omega
     exact ⟨idV ys[i], by rw [ho.cellAt i (by omega)]; simp [this]⟩
    have CI := Lib.hid ci
    clear hD ho hf hyj hxj hxx ci
    cases hp : isK M kind x with
    | false =>
      rw [hp] at TI
      have HP := Lib.hid hp
      clear hp
      go_wp2_with fail
      refine TI.out.mono ?_
      rintro e w2 ⟨rfl, hb9⟩
      have HF2 := Lib.hid (HFw.out.trans (Fr.of_below hb9))
      have HO2 := Lib.hid (ownsRow_fr HOw.out (Fr.of_below (D := fun _ => False) hb9) (fun _ _ e => e))
      clear TI hb9
      go_wp2
      go_roundw
      case rel => exact ⟨i, j + 1, ys, rfl, by go_num, HD.out.skip HXJ.out HP.out, HO2.out, HF2.out⟩
      case measure => simp [intOf]; omega
    | true =>
      rw [hp] at TI
      have HP := Lib.hid hp
      clear hp
      go_wp2_with fail
      refine TI.out.mono ?_
      rintro e w2 ⟨rfl, hb9⟩
      have HF2 := Lib.hid ((HFw.out.trans (Fr.of_below hb9)).set (p := ⟨g, i, none⟩) (.inl rfl) (idV x))
      have ho2 := ownsRow_fr HOw.out (Fr.of_below (D := fun _ => False) hb9) (fun _ _ e => e)
      have HO2 := Lib.hid (show (w2.setCell ⟨g, i, none⟩ (idV x)).ownsRow B 45 1 (.slice (some ⟨g, 0, none⟩) xs.length cc) xs.length ((ys.set i x).map idV) from by rw [List.map_set]; exact (ho2.stored i (idV x)).1)
      have fz2 : ∀ k, w2.frozen? ⟨g, k, none⟩ = false := ho2.frozenAt
      obtain ⟨u, ci2⟩ : ∃ u, w2.cell? ⟨g, i, none⟩ = some u := by
       obtain ⟨u, hu⟩ := CI.out
       have hgl : g < wr.heap.size := (HOw.out.lt g rfl).2
       exact ⟨u, (hb9.cell (p := ⟨g, i, none⟩) hgl).trans hu⟩
      clear TI hb9 ho2 fz cj
      go_wp2
      go_roundw
      case rel => exact ⟨i + 1, j + 1, ys.set i x, by go_num, by go_num, HD.out.keep HXJ.out HP.out, HO2.out, HF2.out⟩
      case measure => simp [intOf]; omega
   ·
    obtain rfl : j = xs.length := by omega
    have hkept := hD.kept
    rw [List.take_length] at hkept
    have hlenk : (xs.filter (isK M kind)).length = i := by rw [← hkept, List.length_take, hD.len]; omega
    have hcl : ∀ ty, (Builtin.clear_ #[68] ty #[.slice (some ⟨g, i, none⟩) (xs.length - i) (cc - i)]).run Tryz.prog wr = .ok (.tuple #[]) (wr.setCells g i (List.replicate (xs.length - i) (.int .u64 0))) := fun ty =>
     Lib.run_clear_slice wr _ _ ty _ Tryz.underlying68 hv0 rfl rfl g i _ _ (by omega) (fun k hk => by
      have : i + k < ys.length := by rw [hD.len]; omega
      rw [ho.cellAt (i + k) (by omega)]; simp [this]) (fun k hk => ho.frozenAt (i + k))
    have hfin := ownsRow_setCells (List.replicate (xs.length - i) (.int .u64 0)) i wr (ownsRow_take ho (show i ≤ xs.length by omega)) (Nat.le_refl _)
    have HFIN := Lib.hid (show (wr.setCells g i (List.replicate (xs.length - i) (.int .u64 0))).ownsRow B 45 1 (.slice (some ⟨g, 0, none⟩) i cc) (xs.filter (isK M kind)).length ((xs.filter (isK M kind)).map idV) from by
     have := hfin.1
     rw [← List.map_take, hkept] at this
     rw [hlenk]
     exact this)
    have HFF := Lib.hid (hf.trans (hfin.2.imp (D' := fun q => (Value.slice (some ⟨g, 0, none⟩) xs.length cc).ownBlock = some q) (fun q _ e => by subst e; rfl)))
    have hil : i ≤ xs.length := by omega
    have hic : i ≤ cc := by omega
    clear hD ho hf hkept hfin hlenk
    go_wp2
    go_ret
    exact ⟨⟨_, rfl, HFIN.out⟩, HFF.out⟩
end Go.Proofs.YtoelmnamlnbdhaaGreatDoor
namespace Hg
def modsK (M : Nat → Option Node) : List Nat := kidsK M 1 2
def funcsK (M : Nat → Option Node) (m : Nat) : List Nat := kidsK M m 3
def KB (M : Nat → Option Node) : Prop := ∀ i nd, M i = some nd → ∀ k ∈ nd.kids, k < 18446744073709551616
theorem KB.at {M : Nat → Option Node} (h : KB M) (id : Nat) : ∀ k ∈ (ndAt M id).kids, k < 18446744073709551616 := by
 intro k hk
 unfold ndAt at hk
 cases hM : M id with
 | none => rw [hM] at hk; simp [Node.zero] at hk
 | some nd => rw [hM] at hk; exact h id nd hM k hk
theorem KB.kids {M : Nat → Option Node} (h : KB M) (id kind : Nat) : ∀ k ∈ kidsK M id kind, k < 18446744073709551616 := fun k hk => h.at id k (List.mem_filter.1 hk).1
end Hg
namespace Go.Proofs.YtoelmnamlnbdhaaGreatDoor
open Go.RowKit
open Hg (GT gl wk isK ndAt kidsK modsK funcsK KB)
theorem Fr.below' {n : Nat} {w w' : World} (h : Fr (fun q => n ≤ q) w w') (hn : n ≤ w.heap.size) : Below n w w' := ⟨h.os, h.tape, h.output, h.size, fun i hi => h.block i (by omega) (by omega)⟩
def ArOk (w : World) (ab : Nat) (M : Nat → Option Hg.Node) : Prop := (∃ mb c, ArAt w ab mb c M) ∧ KB M
theorem ArOk.below {w w' : World} {ab : Nat} {M : Nat → Option Hg.Node} (h : ArOk w ab M) (hb : Below w.heap.size w w') : ArOk w' ab M := by
 obtain ⟨⟨mb, c, hA⟩, hk⟩ := h
 exact ⟨⟨mb, c, hA.below hb (Nat.le_refl _)⟩, hk⟩
theorem ArOk.fr {w w' : World} {ab : Nat} {M : Nat → Option Hg.Node} (h : ArOk w ab M) (hb : Fr (fun q => w.heap.size ≤ q) w w') : ArOk w' ab M := h.below (hb.below (fun q h1 h2 => by omega))
theorem ArOk.len {w : World} {ab : Nat} {M : Nat → Option Hg.Node} (h : ArOk w ab M) (id : Nat) : (ndAt M id).kids.length ≤ 1000000 := by
 obtain ⟨⟨mb, c, hA⟩, _⟩ := h
 exact hA.map.len id
theorem ArOk.lenK {w : World} {ab : Nat} {M : Nat → Option Hg.Node} (h : ArOk w ab M) (id kind : Nat) : (kidsK M id kind).length ≤ 1000000 := by
 have h1 := h.len id
 have h2 : (kidsK M id kind).length ≤ (ndAt M id).kids.length := List.length_filter_le _ _
 omega
theorem ArOk.lt {w : World} {ab : Nat} {M : Nat → Option Hg.Node} (h : ArOk w ab M) : ab < w.heap.size := by
 obtain ⟨⟨mb, c, hA⟩, _⟩ := h
 exact hA.lt
theorem ArOk.get {w : World} {ab : Nat} {M : Nat → Option Hg.Node} (h : ArOk w ab M) {id : Nat} (hid : id < idTop) : Calls Tryz.prog 33 #[.pointer (some ⟨ab, 0, none⟩), .int .u64 (id : Int)] w (GetResO w (M id)) := by
 obtain ⟨⟨mb, c, hA⟩, _⟩ := h
 exact getO_any ab mb c M id w hA hid
def GetNd (w : World) (M : Nat → Option Hg.Node) (id : Nat) (e : Ending) (w' : World) : Prop :=
 ∃ ka kc, e = .returned (.tuple #[ndV (ndAt M id) ka kc, .bool (M id).isSome]) ∧ w'.ownsRow w.heap.size 45 1 (.slice ka (ndAt M id).kids.length kc) (ndAt M id).kids.length ((ndAt M id).kids.map idV) ∧ Below w.heap.size w w'
theorem ArOk.getN {w : World} {ab : Nat} {M : Nat → Option Hg.Node} (h : ArOk w ab M) {id : Nat} (hid : id < idTop) : Calls Tryz.prog 33 #[.pointer (some ⟨ab, 0, none⟩), .int .u64 (id : Int)] w (GetNd w M id) := (h.get hid).mono (fun _ _ h => h)
def RowRes (w : World) (xs : List Nat) (e : Ending) (w' : World) : Prop := (∃ v, e = .returned v ∧ w'.ownsRow w.heap.size 45 1 v xs.length (xs.map idV)) ∧ Below w.heap.size w w'
set_option maxHeartbeats 4000000 in
set_option maxRecDepth 100000 in
theorem kids_any (ab : Nat) (M : Nat → Option Hg.Node) (id kind : Nat) (w : World) (hA : ArOk w ab M) (hid : id < idTop) :
 Calls Tryz.prog 34 #[.pointer (some ⟨ab, 0, none⟩), idV id, .int .u8 (kind : Int)] w (RowRes w (kidsK M id kind)) := by
 have hba : Below w.heap.size w ((w.alloc (.cells #[.pointer (some ⟨ab, 0, none⟩)] 24)).alloc (.cells #[.int .u8 (kind : Int)] 5)) := ((Below.refl _ _).alloc (Nat.le_refl _) _).alloc (by simp) _
 have TG := Lib.hid ((hA.below hba).getN hid)
 have HA := Lib.hid hA
 have HBA := Lib.hid hba
 have hxs := hA.2.at id
 have hln := hA.len id
 have hc1 : ∀ W : World, Below (w.heap.size + 2) ((w.alloc (.cells #[.pointer (some ⟨ab, 0, none⟩)] 24)).alloc (.cells #[.int .u8 (kind : Int)] 5)) W → W.cell? ⟨w.heap.size, 0, none⟩ = some (.pointer (some ⟨ab, 0, none⟩)) ∧ W.cell? ⟨w.heap.size + 1, 0, none⟩ = some (.int .u8 (kind : Int)) := fun W hW => by
  have h2 := heap_alloc_new (w.alloc (.cells #[.pointer (some ⟨ab, 0, none⟩)] 24)) (.cells #[.int .u8 (kind : Int)] 5)
  rw [show (w.alloc (.cells #[.pointer (some ⟨ab, 0, none⟩)] 24)).heap.size = w.heap.size + 1 by simp] at h2
  have h1 : ((w.alloc (.cells #[.pointer (some ⟨ab, 0, none⟩)] 24)).alloc (.cells #[.int .u8 (kind : Int)] 5)).heap[w.heap.size]? = _ := (heap_alloc_old _ _ (by simp)).trans (heap_alloc_new w (.cells #[.pointer (some ⟨ab, 0, none⟩)] 24))
  exact ⟨cell_of_row W w.heap.size 0 _ _ (0, 0) ((hW.block _ (by omega)).trans h1), cell_of_row W (w.heap.size + 1) 0 _ _ (0, 0) ((hW.block _ (by omega)).trans h2)⟩
 have HC1 := Lib.hid hc1
 clear hA hba hc1
 go_enter Tryz.func34, Tryz.ntmps34
 go_wp2_with fail
 refine TG.out.mono ?_
 rintro e w1 ⟨ka, kc, rfl, ho1, hb1⟩
 have hz1 : w.heap.size + 2 ≤ w1.heap.size := by have := hb1.size; simpa using this
 have hz0 : ((w.alloc (.cells #[.pointer (some ⟨ab, 0, none⟩)] 24)).alloc (.cells #[.int .u8 (kind : Int)] 5)).heap.size = w.heap.size + 2 := by simp
 have hbn := boxed_node (w1 := w1) (ndAt M id) ka kc
 have ho2 := ho1.alloc (.cells #[.int .u8 ((ndAt M id).kind : Int), strV (ndAt M id).name, .int .i64 (ndAt M id).num, .int .u8 ((ndAt M id).type : Int), .int .u64 ((ndAt M id).ref : Int), .slice ka (ndAt M id).kids.length kc] 70)
 have hb2 := hb1.alloc hb1.size (.cells #[.int .u8 ((ndAt M id).kind : Int), strV (ndAt M id).name, .int .i64 (ndAt M id).num, .int .u8 ((ndAt M id).type : Int), .int .u64 ((ndAt M id).ref : Int), .slice ka (ndAt M id).kids.length kc] 70)
 rw [hz0] at ho2 hb2
 have hbw : Below w.heap.size w (w1.alloc (.cells #[.int .u8 ((ndAt M id).kind : Int), strV (ndAt M id).name, .int .i64 (ndAt M id).num, .int .u8 ((ndAt M id).type : Int), .int .u64 ((ndAt M id).ref : Int), .slice ka (ndAt M id).kids.length kc] 70)) := HBA.out.trans (hb2.mono (by omega))
 have c5 := hbn 5
 simp at c5
 have hql := ho2.lt
 obtain ⟨hcc1, hcc2⟩ := HC1.out _ hb2
 have hz2 : (w1.alloc (.cells #[.int .u8 ((ndAt M id).kind : Int), strV (ndAt M id).name, .int .i64 (ndAt M id).num, .int .u8 ((ndAt M id).type : Int), .int .u64 ((ndAt M id).ref : Int), .slice ka (ndAt M id).kids.length kc] 70)).heap.size = w1.heap.size + 1 := by simp
 obtain ⟨⟨mb, cc, hAr⟩, hkb⟩ := HA.out
 have TD := delF_any ab mb cc M kind w.heap.size (w.heap.size + 1) (.slice ka (ndAt M id).kids.length kc) (ndAt M id).kids w.heap.size _ (fun W hf => hAr.below (hbw.trans ((hf.imp (D' := fun q => w.heap.size ≤ q) (fun q _ e => by have := (hql _ e).1; omega)).below' hbw.size)) (Nat.le_refl _)) hcc1 hcc2 ⟨by omega, fun e => by have := (hql _ e).1; omega⟩ ⟨by omega, fun e => by have := (hql _ e).1; omega⟩ hxs (ownsRow_base ho2 (by omega)) hln
 have TD2 := Lib.hid TD
 have HBW := Lib.hid hbw
 have HQL := Lib.hid hql
 clear ho1 hb1 ho2 hb2 hbw hql TD hbn hcc1 hcc2 TG hAr hkb
 go_wp2_with fail
 refine TD2.out.mono ?_
 rintro e w3 ⟨⟨v, rfl, ho3⟩, hf3⟩
 have HO3 := Lib.hid ho3
 have HB3 := Lib.hid (HBW.out.trans ((hf3.imp (D' := fun q => w.heap.size ≤ q) (fun q _ e => by have := (HQL.out _ e).1; omega)).below' HBW.out.size))
 clear TD2 ho3 hf3
 go_wp2
 go_ret
 exact ⟨⟨v, rfl, HO3.out⟩, HB3.out⟩
end Go.Proofs.YtoelmnamlnbdhaaGreatDoor
namespace Go.Proofs.YtoelmnamlnbdhaaGreatDoor
open Go.RowKit
open Hg (RC RS RV KB)
abbrev i64V (n : Int) : Value := .int .i64 n
def FrAt (w : World) (fb n : Nat) (V : Nat → Int) : Prop := ∃ D, w.ownsMap Tryz.prog 45 rawR fb n D ∧ Maps.IsMap D ∧ ∀ k, k < idTop → D.atKey (idL k) (.held (i64V 0)) = .held (i64V (V k))
theorem FrAt.made (w : World) : FrAt (w.alloc (.map #[] 0)) w.heap.size 0 (fun _ => 0) := ⟨.map [], World.ownsMap_made w _ _ _, ⟨[], rfl⟩, fun _ _ => rfl⟩
theorem FrAt.lt {w : World} {b n : Nat} {V : Nat → Int} (h : FrAt w b n V) : b < w.heap.size := by
 obtain ⟨D, ho, _⟩ := h
 exact ho.lt
theorem FrAt.obj {w : World} {b n : Nat} {V : Nat → Int} (h : FrAt w b n V) : ∃ es ck, w.heap[b]? = some (.map es ck) := by
 obtain ⟨D, ho, _⟩ := h
 exact owns_map ho
theorem FrAt.look {w : World} {b n : Nat} {V : Nat → Int} (h : FrAt w b n V) {k : Nat} (hk : k < idTop) : (Instr.lookup 84 (.map (some b)) (.int .u64 (k : Int)) false).run Tryz.prog w = .ok (i64V (V k)) w := by
 obtain ⟨D, ho, _, hs⟩ := h
 have hz : (zeroValue 2).run Tryz.prog w = .ok (i64V 0) w := by kernel_rfl
 obtain ⟨v, ps, hrun, hv⟩ := ho.lookup keyedId Tryz.underlying84 hz (zd := .held (i64V 0)) (zp := []) rfl (keyOf_id hk)
 rw [hs k hk] at hv
 simp only [rawR, Option.some.injEq, Prod.mk.injEq] at hv
 have e : v = i64V (V k) := by simpa using hv.1
 rw [hrun, e]
theorem FrAt.put {w : World} {b n : Nat} {V : Nat → Int} (h : FrAt w b n V) {k : Nat} (x : Int) (hk : k < idTop) (hn : n ≤ 1000000) :
 ∃ w', (Instr.mapUpdate 84 (.map (some b)) (.int .u64 (k : Int)) (i64V x)).run Tryz.prog w = .ok () w' ∧ FrAt w' b (n + 1) (fun j => if j = k then x else V j) ∧ w.grownBy w' (some b) := by
 obtain ⟨D, ho, hi, hs⟩ := h
 obtain ⟨w', hrun, ho', hg⟩ := ho.update keyedId Tryz.underlying84 (by unfold maxLen; omega) (keyOf_id hk) (val := i64V x) (d := .held (i64V x)) (ps := []) rfl
 refine ⟨w', hrun, ⟨_, ho', Maps.IsMap.put hi _ _, fun j hj => ?_⟩, hg⟩
 dsimp only
 by_cases e : j = k
 ·
  subst e
  rw [if_pos rfl]
  exact Maps.atKey_put_same hi (by trivial) _ _
 ·
  rw [if_neg e, Maps.atKey_put_other (idL_ne e)]
  exact hs j hj
theorem FrAt.fr {S : Nat → Prop} {w w' : World} {b n : Nat} {V : Nat → Int} (h : FrAt w b n V) (hf : Fr S w w') (hb : ¬ S b) : FrAt w' b n V := by
 obtain ⟨D, ho, hi, hs⟩ := h
 exact ⟨D, ownsMap_fr ho hf hb, hi, hs⟩
theorem ArMapZ.frr {D : Nat → Prop} {Z : Nat → Prop} {w w' : World} {nb c : Nat} {M : Nat → Option Hg.Node} (h : ArMapZ Z w nb c M) (hf : Fr D w w') (h2 : ¬ D nb) (h3 : ∀ q, Z q → ¬ D q) : ArMapZ Z w' nb c M := by
 obtain ⟨⟨E, hw, hc, hk⟩, hbd⟩ := h
 refine ⟨⟨E, ownsMap_fr hw hf h2, hc, fun id hid => ?_⟩, hbd⟩
 have hx := hk id hid
 cases hM : M id with
 | none => rw [hM] at hx; exact hx
 | some nd =>
   rw [hM] at hx
   obtain ⟨ka, kc, g1, g2, g3⟩ := hx
   exact ⟨ka, kc, g1, (g2.fr (Nat.le_refl _) hf (fun q e => h3 q (g3 q e))).more hf.size, g3⟩
theorem ArMapZ.other {Z : Nat → Prop} {w w' : World} {nb fb c : Nat} {M : Nat → Option Hg.Node} {es : Array MapEntry} {ck : Nat} (h : ArMapZ Z w nb c M) (hm : w.heap[fb]? = some (.map es ck)) (hg : w.grownBy w' (some fb)) (hne : nb ≠ fb) : ArMapZ Z w' nb c M := by
 obtain ⟨⟨E, hw, hc, hk⟩, hbd⟩ := h
 refine ⟨⟨E, hw.kept hg (fun e => by injection e with e; exact hne e), hc, fun id hid => ?_⟩, hbd⟩
 have hx := hk id hid
 cases hM : M id with
 | none => rw [hM] at hx; exact hx
 | some nd =>
   rw [hM] at hx
   obtain ⟨ka, kc, g1, g2, g3⟩ := hx
   exact ⟨ka, kc, g1, (sl_grown_map g2 (Nat.le_refl _) hm hg).more hg.size, g3⟩
theorem ArMapZ.lookZ {Z : Nat → Prop} {w w1 : World} {mb c : Nat} {M : Nat → Option Hg.Node} (h : ArMapZ Z w mb c M) (hb : Below w.heap.size w w1) {id : Nat} (hid : id < idTop) {nd : Hg.Node} (hM : M id = some nd) :
 ∃ ka kc, (Instr.lookup 56 (.map (some mb)) (.int .u64 (id : Int)) true).run Tryz.prog w1 = .ok (.tuple #[ndV nd ka kc, .bool true]) w1 ∧
   Sl w w.heap.size (.slice ka nd.kids.length kc) nd.kids.length (nd.kids.map idV) ∧ ∀ q, (Value.slice ka nd.kids.length kc).ownBlock = some q → Z q := by
 have hz : (zeroValue 70).run Tryz.prog w1 = .ok (ndV Hg.Node.zero none 0) w1 := by kernel_rfl
 obtain ⟨⟨D, ho, hc, hk⟩, hbd⟩ := h
 obtain ⟨v, ps, hrun, hv⟩ := (ho.kept (below_grown hb none) (by simp)).look_ok keyedId Tryz.underlying56 hz (zd := .held (ndV Hg.Node.zero none 0)) (zp := []) rfl (keyOf_id hid)
 have hx := hk id hid
 simp only [rawR, Option.some.injEq, Prod.mk.injEq] at hv
 rw [hM] at hx
 obtain ⟨ka, kc, h1, h2, h3⟩ := hx
 rw [h1] at hv
 have e : v = ndV nd ka kc := by simpa using hv.1
 refine ⟨ka, kc, ?_, h2, h3⟩
 rw [hrun, Maps.has_true_of_atKey h1, e]
@[reducible] def machCells (ab nb fu : Nat) (s : RS) (tv : Value) : Array Value := #[.pointer (some ⟨ab, 0, none⟩), .map (some nb), .slice none 0 0, .int .i64 (fu : Int), .int .u8 (s.e : Int), .int .i64 0, tv, .int .i64 (s.used : Int), .int .i64 0]
structure Mach (C : RC) (ab mb nb : Nat) (w0 w : World) (s : RS) (tv : Value) : Prop where
 cell : w.heap[mb]? = some (.cells (machCells ab nb C.fuel s tv) 58 (0, 0))
 ar : ArOk w0 ab C.M
 bel : Below w0.heap.size w0 w
 tr : w.ownsRow w0.heap.size 2 1 tv s.trace.length (s.trace.map i64V)
 nodes : ∃ c Mc, ArMapZ (fun q => q ≠ mb ∧ tv.ownBlock ≠ some q ∧ q < w.heap.size) w nb c Mc ∧ c ≤ s.nc ∧ ∀ id n, Mc id = some n → n = C.nd id
 lo : w0.heap.size ≤ mb ∧ w0.heap.size ≤ nb
 tm : tv.ownBlock ≠ some mb
 fu : C.fuel ≤ 50000
 us : s.used ≤ 50000
variable {C : RC} {ab mb nb fb n : Nat} {w0 w w' : World} {s s' : RS} {tv tv' : Value} {V : Nat → Int}
theorem Mach.arOk (h : Mach C ab mb nb w0 w s tv) : ArOk w ab C.M := h.ar.below h.bel
theorem Mach.nobj (h : Mach C ab mb nb w0 w s tv) : ∃ es ck, w.heap[nb]? = some (.map es ck) := by
 obtain ⟨c, Mc, hm, _⟩ := h.nodes
 obtain ⟨⟨D, ho, _⟩, _⟩ := hm
 exact owns_map ho
theorem Mach.ne (h : Mach C ab mb nb w0 w s tv) : nb ≠ mb := by
 obtain ⟨es, ck, hm⟩ := h.nobj
 intro e
 have := h.cell
 rw [← e, hm] at this
 cases this
theorem Mach.lt (h : Mach C ab mb nb w0 w s tv) : mb < w.heap.size := (Array.getElem?_eq_some_iff.1 h.cell).1
def MD (mb nb fb : Nat) (tv : Value) : Nat → Prop := fun q => q = mb ∨ q = nb ∨ q = fb ∨ tv.ownBlock = some q
def MStep (mb nb fb : Nat) (w : World) (tv : Value) (w' : World) (tv' : Value) : Prop := Fr (MD mb nb fb tv) w w' ∧ ∀ q, tv'.ownBlock = some q → tv.ownBlock = some q ∨ w.heap.size ≤ q
theorem MStep.refl (mb nb fb : Nat) (w : World) (tv : Value) : MStep mb nb fb w tv w tv := ⟨Fr.refl _ _, fun q h => .inl h⟩
theorem MStep.trans {w1 w2 : World} {tv1 tv2 : Value} (h : MStep mb nb fb w tv w1 tv1) (k : MStep mb nb fb w1 tv1 w2 tv2) : MStep mb nb fb w tv w2 tv2 := by
 refine ⟨h.1.then_ k.1 (fun q hq e => ?_), fun q e => ?_⟩
 ·
  rcases e with e | e | e | e
  ·
   exact .inl e
  ·
   exact .inr (.inl e)
  ·
   exact .inr (.inr (.inl e))
  ·
   rcases h.2 q e with e | e
   ·
    exact .inr (.inr (.inr e))
   ·
    omega
 ·
  rcases k.2 q e with e | e
  ·
   exact h.2 q e
  ·
   exact .inr (Nat.le_trans h.1.size e)
theorem MStep.of_below {w1 : World} (hb : Below w.heap.size w w1) : MStep mb nb fb w tv w1 tv := ⟨(Fr.of_below hb), fun q e => .inl e⟩
theorem Mach.below (h : Mach C ab mb nb w0 w s tv) (hb : Below w.heap.size w w') : Mach C ab mb nb w0 w' s tv := by
 obtain ⟨c, Mc, hm, hc, hn⟩ := h.nodes
 exact ⟨(hb.block mb h.lt).trans h.cell, h.ar, h.bel.trans (hb.mono h.bel.size), own_below7 h.tr hb (Nat.le_refl _), ⟨c, Mc, (hm.below hb (Nat.le_refl _)).imp (fun q hz => ⟨hz.1, hz.2.1, Nat.lt_of_lt_of_le hz.2.2 hb.size⟩), hc, hn⟩, h.lo, h.tm, h.fu, h.us⟩
theorem Mach.turn (h : Mach C ab mb nb w0 w s tv) (hf : Fr (fun q => q = mb) w w') (hc : w'.heap[mb]? = some (.cells (machCells ab nb C.fuel s' tv) 58 (0, 0))) (ht : s'.trace = s.trace) (hn : s.nc ≤ s'.nc) (hu : s'.used ≤ 50000) : Mach C ab mb nb w0 w' s' tv := by
 obtain ⟨c, Mc, hm, hcc, hnn⟩ := h.nodes
 have hne := h.ne
 refine ⟨hc, h.ar, ⟨hf.os.trans h.bel.os, hf.tape.trans h.bel.tape, hf.output.trans h.bel.output, Nat.le_trans h.bel.size hf.size, fun i hi => (hf.block i (Nat.lt_of_lt_of_le hi h.bel.size) (fun e => by have := h.lo.1; omega)).trans (h.bel.block i hi)⟩, ?_, ⟨c, Mc, (hm.frr hf hne (fun q hz e => hz.1 e)).imp (fun q hz => ⟨hz.1, hz.2.1, Nat.lt_of_lt_of_le hz.2.2 hf.size⟩), by omega, hnn⟩, h.lo, h.tm, h.fu, hu⟩
 rw [ht]
 exact ownsRow_fr h.tr hf (fun q e e' => h.tm (e' ▸ e))
theorem Mach.put {w1 : World} {x : Nat} (h : Mach C ab mb nb w0 w s tv) {c' : Nat} {Mc' : Nat → Option Hg.Node} (hA : ArMapZ (fun q => q ≠ mb ∧ tv.ownBlock ≠ some q ∧ q < w.heap.size ∧ q ≠ x) w' nb c' Mc') (hg : w.grownBy w' (some nb)) (hx : w0.heap.size ≤ x ∧ x ≠ mb ∧ x ≠ nb ∧ tv.ownBlock ≠ some x) (hf2 : Fr (fun q => q = x) w' w1) (hc : c' ≤ s.nc + 1) (hn : ∀ id n, Mc' id = some n → n = C.nd id) : Mach C ab mb nb w0 w1 s.ask tv := by
 obtain ⟨es, ck, hm⟩ := h.nobj
 have hf : Fr (fun q => q = nb) w w' := Fr.of_grown hg (fun q e => by injection e with e; exact e.symm)
 have hne := h.ne
 obtain ⟨x1, x2, x3, x4⟩ := hx
 refine ⟨hf2.at_ (hf.at_ h.cell (fun e => hne e.symm)) (fun e => x2 e.symm), h.ar, ⟨hf2.os.trans (hf.os.trans h.bel.os), hf2.tape.trans (hf.tape.trans h.bel.tape), hf2.output.trans (hf.output.trans h.bel.output), Nat.le_trans (Nat.le_trans h.bel.size hf.size) hf2.size, fun i hi => ?_⟩,
  ownsRow_fr (ownsRow_fr h.tr hf (fun q e e' => ?_)) hf2 (fun q e e' => x4 (e' ▸ e)), ⟨c', Mc', (hA.frr hf2 (fun e => x3 e.symm) (fun q hz e => hz.2.2.2 e)).imp (fun q hz => ⟨hz.1, hz.2.1, Nat.lt_of_lt_of_le hz.2.2.1 (Nat.le_trans hf.size hf2.size)⟩), hc, hn⟩, h.lo, h.tm, h.fu, h.us⟩
 ·
  have hl := h.lo
  have hi2 := Nat.lt_of_lt_of_le hi h.bel.size
  exact (hf2.block i (Nat.lt_of_lt_of_le hi2 hf.size) (by omega)).trans ((hf.block i hi2 (by omega)).trans (h.bel.block i hi))
 ·
  subst e'
  rcases own_not_map h.tr hm with h1 | h1
  ·
   rw [h1] at e; cases e
  ·
   exact h1 e
def Keep (mb : Nat) (w : World) (tv v : Value) (n : Nat) (xs : List Value) : Prop := Sl w w.heap.size v n xs ∧ (0 < xs.length → ∀ q, v.ownBlock = some q → q ≠ mb ∧ tv.ownBlock ≠ some q)
theorem Keep.step {v : Value} {k : Nat} {xs : List Value} (h : Keep mb w tv v k xs) (hs : MStep mb nb fb w tv w' tv') (hN : ∃ es ck, w.heap[nb]? = some (.map es ck)) (hF : ∃ es ck, w.heap[fb]? = some (.map es ck)) : Keep mb w' tv' v k xs := by
 obtain ⟨⟨a, c, rfl, hc⟩, ho⟩ := h
 refine ⟨⟨a, c, rfl, fun hn => ?_⟩, fun hn q hq => ?_⟩
 ·
  obtain ⟨b, o, rfl, hb, hx⟩ := hc hn
  have hq := ho hn b rfl
  have h0 := hx 0 hn
  have hmap : ∀ m, (∃ es ck, w.heap[m]? = some (.map es ck)) → b ≠ m := by
   rintro m ⟨es, ck, hm⟩ rfl
   simp [World.cell?, hm] at h0
  have h1 := hmap nb hN
  have h2 := hmap fb hF
  refine ⟨b, o, rfl, Nat.lt_of_lt_of_le hb hs.1.size, fun j hj => ?_⟩
  refine (hs.1.cell (p := ⟨b, o + j, none⟩) hb ?_).trans (hx j hj)
  rintro (e | e | e | e)
  ·
   exact hq.1 e
  ·
   exact h1 e
  ·
   exact h2 e
  ·
   exact hq.2 e
 ·
  obtain ⟨b, o, rfl, hb, hx⟩ := hc hn
  have e : b = q := by injection hq
  subst e
  have hq2 := ho hn b rfl
  refine ⟨hq2.1, fun e => ?_⟩
  rcases hs.2 b e with e | e
  ·
   exact hq2.2 e
  ·
   omega
theorem Keep.below {v : Value} {k : Nat} {xs : List Value} (h : Keep mb w tv v k xs) (hb : Below w.heap.size w w') : Keep mb w' tv v k xs := ⟨(h.1.below hb (Nat.le_refl _)).more hb.size, h.2⟩
structure St (C : RC) (ab mb nb fb : Nat) (w0 w : World) (s : RS) (tv : Value) (V : RV) : Prop where
 m : Mach C ab mb nb w0 w s tv
 f : FrAt w fb V.c V.v
 ne : fb ≠ nb
 lo : w0.heap.size ≤ fb
variable {R : RV}
theorem St.fne (h : St C ab mb nb fb w0 w s tv R) : fb ≠ mb := by
 obtain ⟨es, ck, hm⟩ := h.f.obj
 intro e
 have := h.m.cell
 rw [← e, hm] at this
 cases this
theorem St.below (h : St C ab mb nb fb w0 w s tv R) (hb : Below w.heap.size w w') : St C ab mb nb fb w0 w' s tv R :=
 ⟨h.m.below hb, h.f.fr (Fr.of_below hb : Fr (fun _ => False) w w') (fun e => e), h.ne, h.lo⟩
theorem St.node (h : St C ab mb nb fb w0 w s tv R) (hm : Mach C ab mb nb w0 w' s' tv) (hf : Fr (fun q => q = nb) w w') : St C ab mb nb fb w0 w' s' tv R := ⟨hm, h.f.fr hf h.ne, h.ne, h.lo⟩
theorem St.burn (h : St C ab mb nb fb w0 w s tv R) (hm : Mach C ab mb nb w0 w' s' tv) (hf : Fr (fun q => q = mb) w w') : St C ab mb nb fb w0 w' s' tv R := ⟨hm, h.f.fr hf h.fne, h.ne, h.lo⟩
theorem MStep.ofN (hf : Fr (fun q => q = nb) w w') : MStep mb nb fb w tv w' tv := ⟨hf.imp (fun q _ e => .inr (.inl e)), fun q e => .inl e⟩
theorem MStep.ofM (hf : Fr (fun q => q = mb) w w') : MStep mb nb fb w tv w' tv := ⟨hf.imp (fun q _ e => .inl e), fun q e => .inl e⟩
end Go.Proofs.YtoelmnamlnbdhaaGreatDoor
