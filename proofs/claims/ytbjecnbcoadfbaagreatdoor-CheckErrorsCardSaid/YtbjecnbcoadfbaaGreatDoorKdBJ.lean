/-
  Part of a proof of CheckErrors: contracts of functions that the claim reaches, and plain lemmas.
-/
import Derived.Test.YtbjecnbcoadfbaaGreatDoorKdBI
import Derived.Test.YtbjecnbcoadfbaaGreatDoorKdAP
set_option linter.all false
namespace Go.Proofs.YtbjecnbcoadfbaaGreatDoor
open Go.RowKit
open Hg (GT gl wk isK ndAt kidsK)
theorem ownsRow_take {w : World} {base : Nat} {e : TypeId} {g n cap m : Nat} {xs : List Value} (h : w.ownsRow base e 1 (.slice (some ⟨g, 0, none⟩) n cap) n xs) (hm : m ≤ n) : w.ownsRow base e 1 (.slice (some ⟨g, 0, none⟩) m cap) m (xs.take m) := by
 obtain ⟨h1, h2⟩ := h
 refine ⟨by simp; omega, ?_⟩
 rcases h2 with ⟨h2, _⟩ | ⟨g', cap', cur, hv, hg, hh, hc1, hc2, hc3, ht⟩
 ·
  cases h2
 ·
  injection hv with e1 e2 e3
  injection e1 with e1
  injection e1 with e1
  subst e1
  subst e3
  refine .inr ⟨g, cap, cur, rfl, hg, hh, by omega, hc2, hc3, ?_⟩
  rw [← ht, List.take_take]
  congr 1
  omega
theorem ownsRow_setCells {base : Nat} {e : TypeId} {g n cap : Nat} {xs : List Value} : ∀ (vs : List Value) (o : Nat) (w : World), w.ownsRow base e 1 (.slice (some ⟨g, 0, none⟩) n cap) n xs → n ≤ o → (w.setCells g o vs).ownsRow base e 1 (.slice (some ⟨g, 0, none⟩) n cap) n xs ∧ Fr (fun q => q = g) w (w.setCells g o vs)
 | [], _, w, h, _ => ⟨h, Fr.refl _ _⟩
 | v :: vs, o, w, h, ho => by
   have h1 := (h.stored o v).1
   rw [List.set_eq_of_length_le (by have := h.1; simp at this; omega)] at h1
   obtain ⟨a, b⟩ := ownsRow_setCells vs (o + 1) (w.setCell ⟨g, o, none⟩ v) h1 (by omega)
   exact ⟨a, ((Fr.refl (fun q => q = g) w).set (p := ⟨g, o, none⟩) (.inl rfl) v).trans b⟩
structure DelSt (p : Nat → Bool) (xs : List Nat) (i j : Nat) (ys : List Nat) : Prop where
 len : ys.length = xs.length
 lt : i < j
 le : j ≤ xs.length
 kept : ys.take i = (xs.take j).filter p
 rest : ys.drop j = xs.drop j
theorem DelSt.skip {p : Nat → Bool} {xs ys : List Nat} {i j x : Nat} (h : DelSt p xs i j ys) (hx : xs[j]? = some x) (hp : p x = false) : DelSt p xs i (j + 1) ys := by
 have hj : j < xs.length := (List.getElem?_eq_some_iff.1 hx).1
 refine ⟨h.len, by have := h.lt; omega, by omega, ?_, ?_⟩
 ·
  rw [h.kept, List.take_succ, hx, List.filter_append]
  simp [hp]
 ·
  rw [← List.drop_drop, h.rest, List.drop_drop]
theorem DelSt.keep {p : Nat → Bool} {xs ys : List Nat} {i j x : Nat} (h : DelSt p xs i j ys) (hx : xs[j]? = some x) (hp : p x = true) : DelSt p xs (i + 1) (j + 1) (ys.set i x) := by
 have hj : j < xs.length := (List.getElem?_eq_some_iff.1 hx).1
 have hij := h.lt
 refine ⟨by simp [h.len], by omega, by omega, ?_, ?_⟩
 ·
  rw [List.take_succ, List.take_set_of_le (Nat.le_refl _), h.kept, List.take_succ, hx, List.filter_append]
  rw [List.getElem?_set_self (by rw [h.len]; omega)]
  simp [hp]
 ·
  rw [List.drop_set_of_lt (by omega), ← List.drop_drop, h.rest, List.drop_drop]
set_option maxHeartbeats 4000000 in
set_option maxRecDepth 100000 in
theorem delF_any (ab mb c : Nat) (M : Nat → Option Hg.Node) (kind b1 b2 : Nat) (v : Value) (xs : List Nat) (B : Nat) (w : World) (hA : ∀ W, Fr (fun q => v.ownBlock = some q) w W → ArAt W ab mb c M) (h1 : w.cell? ⟨b1, 0, none⟩ = some (.pointer (some ⟨ab, 0, none⟩))) (h2 : w.cell? ⟨b2, 0, none⟩ = some (.int .u8 (kind : Int))) (hb1 : b1 < w.heap.size ∧ v.ownBlock ≠ some b1) (hb2 : b2 < w.heap.size ∧ v.ownBlock ≠ some b2) (hx : ∀ x ∈ xs, x < idTop)
 (ho : w.ownsRow B 31 1 v xs.length (xs.map idV)) (hl : xs.length ≤ 1000000) :
 Calls Tryz.prog 47 #[v, .func (.func 48) #[] #[.pointer (some ⟨b1, 0, none⟩), .pointer (some ⟨b2, 0, none⟩)]] w fun e w' => (∃ v', e = .returned v' ∧ w'.ownsRow B 31 1 v' (xs.filter (isK M kind)).length ((xs.filter (isK M kind)).map idV)) ∧ Fr (fun q => v.ownBlock = some q) w w' := by
 have hv0 : ∀ W : World, (zeroValue 31).run Tryz.prog W = .ok (.int .u64 0) W := fun W => by kernel_rfl
 have T1 := Lib.hid (idxF_any ab mb c M kind b1 b2 v xs B w (hA w (Fr.refl _ _)) h1 h2 hb1.1 hb2.1 hx (Sl.of_own ho) hl)
 obtain ⟨a, cc, rfl⟩ := (Sl.of_own ho).form
 have HO := Lib.hid ho
 have HA := Lib.hid hA
 have HC := Lib.hid (And.intro h1 (And.intro h2 (And.intro hb1 hb2)))
 have HX := Lib.hid hx
 clear ho hA h1 h2 hx hb1 hb2
 go_enter Tryz.func47, Tryz.ntmps47
 go_wp2_with fail
 refine T1.out.mono ?_
 rintro e w1 ⟨⟨r, rfl, hr⟩, hbw⟩
 have hf1 : Fr (fun q => (Value.slice a xs.length cc).ownBlock = some q) w w1 := Fr.of_below hbw
 have HO1 := Lib.hid (show w1.ownsRow B 31 1 (.slice a xs.length cc) xs.length (xs.map idV) from ownsRow_fr HO.out (Fr.of_below (D := fun _ => False) hbw) (fun _ _ e => e))
 have HF1 := Lib.hid hf1
 clear T1 hbw hf1
 rcases hr with ⟨rfl, hall⟩ | ⟨i0, rfl, x0, hx0, hp0, hbef⟩
 ·
  have hfil : xs.filter (isK M kind) = xs := List.filter_eq_self.2 hall
  clear hall
  go_wp2
  go_ret
  rw [hfil]
  exact ⟨⟨_, rfl, HO1.out⟩, HF1.out⟩
 ·
  have hi0 : i0 < xs.length := (List.getElem?_eq_some_iff.1 hx0).1
  obtain ⟨g, rfl⟩ : ∃ g, a = some ⟨g, 0, none⟩ := by
   rcases HO.out.2 with ⟨_, h⟩ | ⟨g, cap, cur, hv, _⟩
   ·
    omega
   ·
    injection hv with h1 h2 h3; exact ⟨g, h1⟩
  have hst0 : DelSt (isK M kind) xs i0 (i0 + 1) xs := by
   refine ⟨rfl, by omega, by omega, ?_, rfl⟩
   rw [List.take_succ, hx0, List.filter_append]
   have h1 : (xs.take i0).filter (isK M kind) = xs.take i0 := List.filter_eq_self.2 (fun y hy => by
    obtain ⟨k, hk, e⟩ := List.mem_iff_getElem.1 hy
    rw [List.length_take] at hk
    rw [List.getElem_take] at e
    exact hbef k y (by omega) (by rw [List.getElem?_eq_getElem (by omega), e]))
   rw [h1]
   simp [hp0]
  have HST := Lib.hid hst0
  have hq : ((i0 : Int) == -1) = false := by simp
  have hwi : IntKind.i64.wrap ((i0 : Int) + 1) = ((i0 + 1 : Nat) : Int) := by rw [IntWalk.i64_in _ (by omega)]; push_cast; rfl
  have hcap : xs.length ≤ cc := (by obtain ⟨c9, e, h, _⟩ := own_form HO.out rfl; injection e with _ _ e; omega)
  clear hst0 hbef hp0 hx0
  go_wp2
  go_loopw [5, 6] (fun p q wr => ∃ (i j : Nat) (ys : List Nat), p = .int .i64 (i : Int) ∧ q = .int .i64 (j : Int) ∧ DelSt (isK M kind) xs i j ys ∧ wr.ownsRow B 31 1 (.slice (some ⟨g, 0, none⟩) xs.length cc) xs.length (ys.map idV) ∧ Fr (fun q => (Value.slice (some ⟨g, 0, none⟩) xs.length cc).ownBlock = some q) w wr) (fun _ q wr => xs.length - (intOf q).toNat)
  case atStart => exact ⟨i0, i0 + 1, xs, rfl, by first | rfl | go_num, HST.out, HO1.out, HF1.out⟩
  case round =>
   obtain ⟨i, j, ys, rfl, rfl, hD, ho, hf⟩ := hrel
   have hij := hD.lt
   have hjl := hD.le
   by_cases hlt : j < xs.length
   ·
    obtain ⟨x, hxj⟩ : ∃ x, xs[j]? = some x := ⟨_, List.getElem?_eq_getElem hlt⟩
    have hyj : ys[j]? = some x := by
     have h := congrArg (fun l => l[0]?) hD.rest
     simpa [hxj] using h
    have cj : wr.cell? ⟨g, j, none⟩ = some (idV x) := by rw [ho.cellAt j (by omega)]; simp [hyj]
    have fz : ∀ k, wr.frozen? ⟨g, k, none⟩ = false := ho.frozenAt
    have hxx : x ∈ xs := List.mem_of_getElem? hxj
    have TI := Lib.hid (kid1_any ab mb c M x kind b1 b2 wr (HA.out wr hf) ((hf.cell (p := ⟨b1, 0, none⟩) HC.out.2.2.1.1 HC.out.2.2.1.2).trans HC.out.1) ((hf.cell (p := ⟨b2, 0, none⟩) HC.out.2.2.2.1 HC.out.2.2.2.2).trans HC.out.2.1) (Nat.lt_of_lt_of_le HC.out.2.2.2.1 hf.size) (HX.out x hxx))
    have HD := Lib.hid hD
    have HOw := Lib.hid ho
    have HFw := Lib.hid hf
    have HXJ := Lib.hid hxj
    have hwj : IntKind.i64.wrap ((j : Int) + 1) = (j : Int) + 1 := IntWalk.i64_in _ (by omega)
    have hwi : IntKind.i64.wrap ((i : Int) + 1) = (i : Int) + 1 := IntWalk.i64_in _ (by omega)
    have hil : i < xs.length := by omega
    have ci : ∃ u, wr.cell? ⟨g, i, none⟩ = some u := by
     have : i < ys.length := by rw [hD.len]; omega
     exact ⟨idV ys[i], by rw [ho.cellAt i (by omega)]; simp [this]⟩
    have CI := Lib.hid ci
    clear hD ho hf hyj hxj hxx ci
    cases hp : isK M kind x with
    | false =>
      rw [hp] at TI
      have HP := Lib.hid hp
      clear hp
      go_wp2_with fail
      refine TI.out.mono ?_
      rintro e w2 ⟨rfl, hb9⟩
      have HF2 := Lib.hid (HFw.out.trans (Fr.of_below hb9))
      have HO2 := Lib.hid (ownsRow_fr HOw.out (Fr.of_below (D := fun _ => False) hb9) (fun _ _ e => e))
      clear TI hb9
      go_wp2
      go_roundw
      case rel => exact ⟨i, j + 1, ys, rfl, by go_num, HD.out.skip HXJ.out HP.out, HO2.out, HF2.out⟩
      case measure => simp [intOf]; omega
    | true =>
      rw [hp] at TI
      have HP := Lib.hid hp
      clear hp
      go_wp2_with fail
      refine TI.out.mono ?_
      rintro e w2 ⟨rfl, hb9⟩
      have HF2 := Lib.hid ((HFw.out.trans (Fr.of_below hb9)).set (p := ⟨g, i, none⟩) (.inl rfl) (idV x))
      have ho2 := ownsRow_fr HOw.out (Fr.of_below (D := fun _ => False) hb9) (fun _ _ e => e)
      have HO2 := Lib.hid (show (w2.setCell ⟨g, i, none⟩ (idV x)).ownsRow B 31 1 (.slice (some ⟨g, 0, none⟩) xs.length cc) xs.length ((ys.set i x).map idV) from by rw [List.map_set]; exact (ho2.stored i (idV x)).1)
      have fz2 : ∀ k, w2.frozen? ⟨g, k, none⟩ = false := ho2.frozenAt
      obtain ⟨u, ci2⟩ : ∃ u, w2.cell? ⟨g, i, none⟩ = some u := by
       obtain ⟨u, hu⟩ := CI.out
       have hgl : g < wr.heap.size := (HOw.out.lt g rfl).2
       exact ⟨u, (hb9.cell (p := ⟨g, i, none⟩) hgl).trans hu⟩
      clear TI hb9 ho2 fz cj
      go_wp2
      go_roundw
      case rel => exact ⟨i + 1, j + 1, ys.set i x, by go_num, by go_num, HD.out.keep HXJ.out HP.out, HO2.out, HF2.out⟩
      case measure => simp [intOf]; omega
   ·
    obtain rfl : j = xs.length := by omega
    have hkept := hD.kept
    rw [List.take_length] at hkept
    have hlenk : (xs.filter (isK M kind)).length = i := by rw [← hkept, List.length_take, hD.len]; omega
    have hcl : ∀ ty, (Builtin.clear_ #[53] ty #[.slice (some ⟨g, i, none⟩) (xs.length - i) (cc - i)]).run Tryz.prog wr = .ok (.tuple #[]) (wr.setCells g i (List.replicate (xs.length - i) (.int .u64 0))) := fun ty =>
     Lib.run_clear_slice wr _ _ ty _ Tryz.underlying53 hv0 rfl rfl g i _ _ (by omega) (fun k hk => by
      have : i + k < ys.length := by rw [hD.len]; omega
      rw [ho.cellAt (i + k) (by omega)]; simp [this]) (fun k hk => ho.frozenAt (i + k))
    have hfin := ownsRow_setCells (List.replicate (xs.length - i) (.int .u64 0)) i wr (ownsRow_take ho (show i ≤ xs.length by omega)) (Nat.le_refl _)
    have HFIN := Lib.hid (show (wr.setCells g i (List.replicate (xs.length - i) (.int .u64 0))).ownsRow B 31 1 (.slice (some ⟨g, 0, none⟩) i cc) (xs.filter (isK M kind)).length ((xs.filter (isK M kind)).map idV) from by
     have := hfin.1
     rw [← List.map_take, hkept] at this
     rw [hlenk]
     exact this)
    have HFF := Lib.hid (hf.trans (hfin.2.imp (D' := fun q => (Value.slice (some ⟨g, 0, none⟩) xs.length cc).ownBlock = some q) (fun q _ e => by subst e; rfl)))
    have hil : i ≤ xs.length := by omega
    have hic : i ≤ cc := by omega
    clear hD ho hf hkept hfin hlenk
    go_wp2
    go_ret
    exact ⟨⟨_, rfl, HFIN.out⟩, HFF.out⟩
end Go.Proofs.YtbjecnbcoadfbaaGreatDoor
namespace Hg
def modsK (M : Nat → Option Node) : List Nat := kidsK M 1 2
def funcsK (M : Nat → Option Node) (m : Nat) : List Nat := kidsK M m 3
def KB (M : Nat → Option Node) : Prop := ∀ i nd, M i = some nd → ∀ k ∈ nd.kids, k < 18446744073709551616
theorem KB.at {M : Nat → Option Node} (h : KB M) (id : Nat) : ∀ k ∈ (ndAt M id).kids, k < 18446744073709551616 := by
 intro k hk
 unfold ndAt at hk
 cases hM : M id with
 | none => rw [hM] at hk; simp [Node.zero] at hk
 | some nd => rw [hM] at hk; exact h id nd hM k hk
theorem KB.kids {M : Nat → Option Node} (h : KB M) (id kind : Nat) : ∀ k ∈ kidsK M id kind, k < 18446744073709551616 := fun k hk => h.at id k (List.mem_filter.1 hk).1
end Hg
namespace Go.Proofs.YtbjecnbcoadfbaaGreatDoor
open Go.RowKit
open Hg (GT gl wk isK ndAt kidsK modsK funcsK KB)
theorem Fr.below' {n : Nat} {w w' : World} (h : Fr (fun q => n ≤ q) w w') (hn : n ≤ w.heap.size) : Below n w w' := ⟨h.os, h.tape, h.output, h.size, fun i hi => h.block i (by omega) (by omega)⟩
def ArOk (w : World) (ab : Nat) (M : Nat → Option Hg.Node) : Prop := (∃ mb c, ArAt w ab mb c M) ∧ KB M
theorem ArOk.below {w w' : World} {ab : Nat} {M : Nat → Option Hg.Node} (h : ArOk w ab M) (hb : Below w.heap.size w w') : ArOk w' ab M := by
 obtain ⟨⟨mb, c, hA⟩, hk⟩ := h
 exact ⟨⟨mb, c, hA.below hb (Nat.le_refl _)⟩, hk⟩
theorem ArOk.fr {w w' : World} {ab : Nat} {M : Nat → Option Hg.Node} (h : ArOk w ab M) (hb : Fr (fun q => w.heap.size ≤ q) w w') : ArOk w' ab M := h.below (hb.below (fun q h1 h2 => by omega))
theorem ArOk.len {w : World} {ab : Nat} {M : Nat → Option Hg.Node} (h : ArOk w ab M) (id : Nat) : (ndAt M id).kids.length ≤ 1000000 := by
 obtain ⟨⟨mb, c, hA⟩, _⟩ := h
 exact hA.map.len id
theorem ArOk.lenK {w : World} {ab : Nat} {M : Nat → Option Hg.Node} (h : ArOk w ab M) (id kind : Nat) : (kidsK M id kind).length ≤ 1000000 := by
 have h1 := h.len id
 have h2 : (kidsK M id kind).length ≤ (ndAt M id).kids.length := List.length_filter_le _ _
 omega
theorem ArOk.lt {w : World} {ab : Nat} {M : Nat → Option Hg.Node} (h : ArOk w ab M) : ab < w.heap.size := by
 obtain ⟨⟨mb, c, hA⟩, _⟩ := h
 exact hA.lt
theorem ArOk.get {w : World} {ab : Nat} {M : Nat → Option Hg.Node} (h : ArOk w ab M) {id : Nat} (hid : id < idTop) : Calls Tryz.prog 19 #[.pointer (some ⟨ab, 0, none⟩), .int .u64 (id : Int)] w (GetResO w (M id)) := by
 obtain ⟨⟨mb, c, hA⟩, _⟩ := h
 exact getO_any ab mb c M id w hA hid
def GetNd (w : World) (M : Nat → Option Hg.Node) (id : Nat) (e : Ending) (w' : World) : Prop :=
 ∃ ka kc, e = .returned (.tuple #[ndV (ndAt M id) ka kc, .bool (M id).isSome]) ∧ w'.ownsRow w.heap.size 31 1 (.slice ka (ndAt M id).kids.length kc) (ndAt M id).kids.length ((ndAt M id).kids.map idV) ∧ Below w.heap.size w w'
theorem ArOk.getN {w : World} {ab : Nat} {M : Nat → Option Hg.Node} (h : ArOk w ab M) {id : Nat} (hid : id < idTop) : Calls Tryz.prog 19 #[.pointer (some ⟨ab, 0, none⟩), .int .u64 (id : Int)] w (GetNd w M id) := (h.get hid).mono (fun _ _ h => h)
def RowRes (w : World) (xs : List Nat) (e : Ending) (w' : World) : Prop := (∃ v, e = .returned v ∧ w'.ownsRow w.heap.size 31 1 v xs.length (xs.map idV)) ∧ Below w.heap.size w w'
set_option maxHeartbeats 4000000 in
set_option maxRecDepth 100000 in
theorem kids_any (ab : Nat) (M : Nat → Option Hg.Node) (id kind : Nat) (w : World) (hA : ArOk w ab M) (hid : id < idTop) :
 Calls Tryz.prog 20 #[.pointer (some ⟨ab, 0, none⟩), idV id, .int .u8 (kind : Int)] w (RowRes w (kidsK M id kind)) := by
 have hba : Below w.heap.size w ((w.alloc (.cells #[.pointer (some ⟨ab, 0, none⟩)] 24)).alloc (.cells #[.int .u8 (kind : Int)] 5)) := ((Below.refl _ _).alloc (Nat.le_refl _) _).alloc (by simp) _
 have TG := Lib.hid ((hA.below hba).getN hid)
 have HA := Lib.hid hA
 have HBA := Lib.hid hba
 have hxs := hA.2.at id
 have hln := hA.len id
 have hc1 : ∀ W : World, Below (w.heap.size + 2) ((w.alloc (.cells #[.pointer (some ⟨ab, 0, none⟩)] 24)).alloc (.cells #[.int .u8 (kind : Int)] 5)) W → W.cell? ⟨w.heap.size, 0, none⟩ = some (.pointer (some ⟨ab, 0, none⟩)) ∧ W.cell? ⟨w.heap.size + 1, 0, none⟩ = some (.int .u8 (kind : Int)) := fun W hW => by
  have h2 := heap_alloc_new (w.alloc (.cells #[.pointer (some ⟨ab, 0, none⟩)] 24)) (.cells #[.int .u8 (kind : Int)] 5)
  rw [show (w.alloc (.cells #[.pointer (some ⟨ab, 0, none⟩)] 24)).heap.size = w.heap.size + 1 by simp] at h2
  have h1 : ((w.alloc (.cells #[.pointer (some ⟨ab, 0, none⟩)] 24)).alloc (.cells #[.int .u8 (kind : Int)] 5)).heap[w.heap.size]? = _ := (heap_alloc_old _ _ (by simp)).trans (heap_alloc_new w (.cells #[.pointer (some ⟨ab, 0, none⟩)] 24))
  exact ⟨cell_of_row W w.heap.size 0 _ _ (0, 0) ((hW.block _ (by omega)).trans h1), cell_of_row W (w.heap.size + 1) 0 _ _ (0, 0) ((hW.block _ (by omega)).trans h2)⟩
 have HC1 := Lib.hid hc1
 clear hA hba hc1
 go_enter Tryz.func20, Tryz.ntmps20
 go_wp2_with fail
 refine TG.out.mono ?_
 rintro e w1 ⟨ka, kc, rfl, ho1, hb1⟩
 have hz1 : w.heap.size + 2 ≤ w1.heap.size := by have := hb1.size; simpa using this
 have hz0 : ((w.alloc (.cells #[.pointer (some ⟨ab, 0, none⟩)] 24)).alloc (.cells #[.int .u8 (kind : Int)] 5)).heap.size = w.heap.size + 2 := by simp
 have hbn := boxed_node (w1 := w1) (ndAt M id) ka kc
 have ho2 := ho1.alloc (.cells #[.int .u8 ((ndAt M id).kind : Int), strV (ndAt M id).name, .int .i64 (ndAt M id).num, .int .u8 ((ndAt M id).type : Int), .int .u64 ((ndAt M id).ref : Int), .slice ka (ndAt M id).kids.length kc] 55)
 have hb2 := hb1.alloc hb1.size (.cells #[.int .u8 ((ndAt M id).kind : Int), strV (ndAt M id).name, .int .i64 (ndAt M id).num, .int .u8 ((ndAt M id).type : Int), .int .u64 ((ndAt M id).ref : Int), .slice ka (ndAt M id).kids.length kc] 55)
 rw [hz0] at ho2 hb2
 have hbw : Below w.heap.size w (w1.alloc (.cells #[.int .u8 ((ndAt M id).kind : Int), strV (ndAt M id).name, .int .i64 (ndAt M id).num, .int .u8 ((ndAt M id).type : Int), .int .u64 ((ndAt M id).ref : Int), .slice ka (ndAt M id).kids.length kc] 55)) := HBA.out.trans (hb2.mono (by omega))
 have c5 := hbn 5
 simp at c5
 have hql := ho2.lt
 obtain ⟨hcc1, hcc2⟩ := HC1.out _ hb2
 have hz2 : (w1.alloc (.cells #[.int .u8 ((ndAt M id).kind : Int), strV (ndAt M id).name, .int .i64 (ndAt M id).num, .int .u8 ((ndAt M id).type : Int), .int .u64 ((ndAt M id).ref : Int), .slice ka (ndAt M id).kids.length kc] 55)).heap.size = w1.heap.size + 1 := by simp
 obtain ⟨⟨mb, cc, hAr⟩, hkb⟩ := HA.out
 have TD := delF_any ab mb cc M kind w.heap.size (w.heap.size + 1) (.slice ka (ndAt M id).kids.length kc) (ndAt M id).kids w.heap.size _ (fun W hf => hAr.below (hbw.trans ((hf.imp (D' := fun q => w.heap.size ≤ q) (fun q _ e => by have := (hql _ e).1; omega)).below' hbw.size)) (Nat.le_refl _)) hcc1 hcc2 ⟨by omega, fun e => by have := (hql _ e).1; omega⟩ ⟨by omega, fun e => by have := (hql _ e).1; omega⟩ hxs (ownsRow_base ho2 (by omega)) hln
 have TD2 := Lib.hid TD
 have HBW := Lib.hid hbw
 have HQL := Lib.hid hql
 clear ho1 hb1 ho2 hb2 hbw hql TD hbn hcc1 hcc2 TG hAr hkb
 go_wp2_with fail
 refine TD2.out.mono ?_
 rintro e w3 ⟨⟨v, rfl, ho3⟩, hf3⟩
 have HO3 := Lib.hid ho3
 have HB3 := Lib.hid (HBW.out.trans ((hf3.imp (D' := fun q => w.heap.size ≤ q) (fun q _ e => by have := (HQL.out _ e).1; omega)).below' HBW.out.size))
 clear TD2 ho3 hf3
 go_wp2
 go_ret
 exact ⟨⟨v, rfl, HO3.out⟩, HB3.out⟩
end Go.Proofs.YtbjecnbcoadfbaaGreatDoor
namespace Hg
def nameK (M : Nat → Option Node) (id : Nat) : Str := (ndAt M id).name
def typeK (M : Nat → Option Node) (id : Nat) : Nat :=
 if (ndAt M id).kind = 13 ∨ (ndAt M id).kind = 17 ∨ (ndAt M id).kind = 20 then 1
 else if (ndAt M id).kind = 14 ∨ (ndAt M id).kind = 16 then 2
 else if (ndAt M id).kind = 18 then (if (ndAt M id).num ≤ 5 then 1 else 2)
 else if (ndAt M id).kind = 15 ∨ (ndAt M id).kind = 19 then (ndAt M (ndAt M id).ref).type
 else 0
end Hg
namespace Go.Proofs.YtbjecnbcoadfbaaGreatDoor
open Go.RowKit Go.Sort Go.Lib
open Hg (GT gl wk isK ndAt kidsK modsK funcsK KB nameK typeK)
set_option maxHeartbeats 4000000 in
set_option maxRecDepth 100000 in
theorem kname_any (ab : Nat) (M : Nat → Option Hg.Node) (id : Nat) (w : World) (hA : ArOk w ab M) (hid : id < idTop) :
 Calls Tryz.prog 45 #[.pointer (some ⟨ab, 0, none⟩), idV id] w fun e w' => e = .returned (strV (nameK M id)) ∧ Below w.heap.size w w' := by
 have TG := Lib.hid (hA.getN hid)
 unfold nameK
 clear hA
 go_enter Tryz.func45, Tryz.ntmps45
 go_wp2_with fail
 refine TG.out.mono ?_
 rintro e w1 ⟨ka, kc, rfl, ho1, hb1⟩
 have HB := Lib.hid hb1
 clear TG ho1 hb1
 go_wp2
 go_ret
 exact ⟨rfl, HB.out.alloc HB.out.size _⟩
set_option maxHeartbeats 4000000 in
set_option maxRecDepth 100000 in
theorem modules_any (ab : Nat) (M : Nat → Option Hg.Node) (w : World) (hA : ArOk w ab M) :
 Calls Tryz.prog 38 #[.pointer (some ⟨ab, 0, none⟩)] w (RowRes w (modsK M)) := by
 have T1 := Lib.hid (root_any ab w)
 have T2 := Lib.hid (kids_any ab M 1 2 w hA (by decide))
 clear hA
 go_enter Tryz.func38, Tryz.ntmps38
 go_wp2_with fail
 refine T1.out.mono ?_
 rintro e w1 ⟨rfl, rfl⟩
 clear T1
 go_wp2_with fail
 refine T2.out.mono ?_
 rintro e w2 ⟨⟨v, rfl, ho⟩, hb⟩
 have HO := Lib.hid ho
 have HB := Lib.hid hb
 clear T2 ho hb
 go_wp2
 go_ret
 exact ⟨⟨v, rfl, HO.out⟩, HB.out⟩
set_option maxHeartbeats 4000000 in
set_option maxRecDepth 100000 in
theorem funcs_any (ab : Nat) (M : Nat → Option Hg.Node) (m : Nat) (w : World) (hA : ArOk w ab M) (hm : m < idTop) :
 Calls Tryz.prog 39 #[.pointer (some ⟨ab, 0, none⟩), idV m] w (RowRes w (funcsK M m)) := by
 have T2 := Lib.hid (kids_any ab M m 3 w hA hm)
 clear hA
 go_enter Tryz.func39, Tryz.ntmps39
 go_wp2_with fail
 refine T2.out.mono ?_
 rintro e w2 ⟨⟨v, rfl, ho⟩, hb⟩
 have HO := Lib.hid ho
 have HB := Lib.hid hb
 clear T2 ho hb
 go_wp2
 go_ret
 exact ⟨⟨v, rfl, HO.out⟩, HB.out⟩
theorem strInfo88 : (Tryz.prog.info? 9).map (fun i => (i.zero, i.size, i.bytes)) = some (some (.string ⟨#[]⟩), 1, 16) := by kernel_rfl
def StrRes (w : World) (l : List (List UInt8)) (e : Ending) (w' : World) : Prop := (∃ v, e = .returned v ∧ w'.ownsRow w.heap.size 9 1 v l.length (l.map strV)) ∧ Below w.heap.size w w'
set_option maxHeartbeats 4000000 in
set_option maxRecDepth 100000 in
theorem names_any (ab : Nat) (M : Nat → Option Hg.Node) (v : Value) (ids : List Nat) (w : World) (hA : ArOk w ab M) (hs : Sl w w.heap.size v ids.length (ids.map idV)) (hi : ∀ x ∈ ids, x < idTop) (hl : ids.length ≤ 1000000) :
 Calls Tryz.prog 37 #[.pointer (some ⟨ab, 0, none⟩), v] w (StrRes w (ids.map (nameK M))) := by
 obtain ⟨i0, hi0, hz0, hz1, hz2⟩ := info_parts strInfo88
 have HA := Lib.hid hA
 have HS := Lib.hid hs
 have HI := Lib.hid hi
 obtain ⟨a, c, rfl⟩ := hs.form
 clear hA hs hi
 go_enter Tryz.func37, Tryz.ntmps37
 go_wp2
 go_loopw [5, 10] (fun p q wr => ∃ (k : Nat) (u : Value), p = u ∧ q = .int .i64 (k : Int) ∧ k ≤ ids.length ∧ wr.ownsRow w.heap.size 9 1 u k ((ids.take k).map (fun x => strV (nameK M x))) ∧ Below w.heap.size w wr) (fun _ q wr => ids.length - (intOf q).toNat)
 case atStart => exact ⟨0, _, rfl, rfl, Nat.zero_le _, ⟨rfl, .inl ⟨rfl, rfl⟩⟩, Below.refl _ _⟩
 case round =>
  obtain ⟨k, u, hu, rfl, hk, ho, hb⟩ := hrel
  have hu := hu.symm
  subst hu
  have HB := Lib.hid hb
  have HO := Lib.hid ho
  by_cases hlt : k < ids.length
  ·
   obtain ⟨b, o, rfl, _, kc⟩ := (HS.out.below HB.out (Nat.le_refl _)).mapAt hlt
   have TN := Lib.hid (kname_any ab M ids[k] wr (HA.out.below HB.out) (HI.out _ (List.getElem_mem hlt)))
   have htk : ids.take (k + 1) = ids.take k ++ [ids[k]] := List.take_succ_eq_append_getElem hlt
   generalize ids[k] = x at kc TN htk
   have HTK := Lib.hid htk
   clear hb ho htk
   go_wp2_with fail
   refine TN.out.mono ?_
   rintro e w1 ⟨rfl, hb1⟩
   have HB1 := Lib.hid (HB.out.trans (hb1.mono HB.out.size))
   have HO1 := Lib.hid (ownsRow_fr HO.out (Fr.of_below (D := fun _ => False) hb1) (fun _ _ e => e))
   have hsz := HB1.out.size
   clear hb1 TN
   go_wp2_with (at_builtin; refine wpList_append_own_at _ rfl (.tmp 14) (.tmp 18) _ rfl w.heap.size 9 i0 _ 1 16 Tryz.underlying23 hi0 hz0 hz1 hz2 rfl (by decide) _ k ((ids.take k).map (fun x => strV (nameK M x))) rfl (HO1.out.alloc _) ⟨w1.heap.size, 0, none⟩ 1 1 [strV (nameK M x)] rfl rfl (cells_new _ _ _) ?_ ?_ ?_ ?_ ?_)
   all_goals first
    | intro v3 W3 own3 g3 _ at3
    | (unfold maxLen; omega)
    | omega
    | (simp; omega)
    | (intro u hu; simp only [List.mem_singleton] at hu; subst hu; rfl)
   have HO3 := Lib.hid (show W3.ownsRow w.heap.size 9 1 v3 (k + 1) ((ids.take (k + 1)).map (fun x => strV (nameK M x))) from by rw [HTK.out, List.map_append, List.map_take]; exact own3)
   have HB3 := Lib.hid ((HB1.out.alloc HB1.out.size _).grown g3 (by simp; omega) (fun q hq => (HO1.out.lt q hq).1))
   clear own3 g3 at3
   go_wp2
   go_roundw
   case rel => exact ⟨k + 1, v3, rfl, by go_num, by omega, HO3.out, HB3.out⟩
   case measure => simp [intOf]; omega
  ·
   obtain rfl : k = ids.length := by omega
   rw [List.take_length] at ho
   have HO2 := Lib.hid ho
   clear hb ho
   go_wp2
   go_ret
   refine ⟨⟨_, rfl, ?_⟩, HB.out⟩
   rw [List.length_map, List.map_map]
   exact HO2.out
set_option maxHeartbeats 4000000 in
theorem len0_any (w : World) : Calls Tryz.prog 102 #[.int .u64 0] w fun e w' => e = .returned (.int .i64 0) ∧ w' = w := by
 have T1 : Calls Tryz.prog 127 #[.int .u64 0] w fun e w' => e = .returned (.int .i64 0) ∧ w' = w := by
  go_enter Tryz.func127, Tryz.ntmps127
  go_wp2
  go_ret
  exact ⟨by kernel_rfl, rfl⟩
 have T1 := Lib.hid T1
 go_enter Tryz.func102, Tryz.ntmps102
 go_wp2_with fail
 refine T1.out.mono ?_
 rintro e w1 ⟨rfl, rfl⟩
 go_wp2
 go_ret
 exact ⟨rfl, rfl⟩
set_option maxHeartbeats 4000000 in
set_option maxRecDepth 100000 in
theorem sort0_any (a : Option Addr) (c : Nat) (w : World) : Calls Tryz.prog 77 #[.slice a 0 c] w fun e w' => e = .returned (.tuple #[]) ∧ w' = w := by
 have T1 : Calls Tryz.prog 117 #[.slice a 0 c, .int .i64 0, .int .i64 0] w fun e w' => e = .returned (.tuple #[]) ∧ w' = w := by
  go_enter Tryz.func117, Tryz.ntmps117
  go_wp2
  go_loopw [6] (fun p wr => p = .int .i64 1 ∧ wr = w) (fun p wr => 0)
  case atStart => exact ⟨rfl, rfl⟩
  case round =>
   obtain ⟨rfl, rfl⟩ := hrel
   go_wp2
   go_end0
   exact ⟨rfl, rfl⟩
 have T1 := Lib.hid T1
 have T2 : Calls Tryz.prog 101 #[.slice a 0 c, .int .i64 0, .int .i64 0, .int .i64 0] w fun e w' => e = .returned (.tuple #[]) ∧ w' = w := by
  go_enter Tryz.func101, Tryz.ntmps101
  go_wp2
  refine wp_loop_once ?_
  go_wp2_with fail
  refine T1.out.mono ?_
  rintro e w1 ⟨rfl, rfl⟩
  go_wp2
  refine bodyPost_ret (results_none rfl _ _ _) rfl ?_
  exact ⟨rfl, rfl⟩
 have T2 := Lib.hid T2
 have T3 := Lib.hid (len0_any w)
 go_enter Tryz.func77, Tryz.ntmps77
 go_wp2_with fail
 refine T3.out.mono ?_
 rintro e w1 ⟨rfl, rfl⟩
 go_wp2_with fail
 refine T2.out.mono ?_
 rintro e w1 ⟨rfl, rfl⟩
 go_wp2
 go_end0
 exact ⟨rfl, rfl⟩
theorem eqlStr (T : TypeId) : EqlAt Tryz.prog T encStr (fun x y => decide (x = y)) := by
 refine ⟨fun x y w => ?_, fun op a b x y w => (EqlAt.string Tryz.prog T).2 op a b ⟨x.toArray⟩ ⟨y.toArray⟩ w⟩
 have := (EqlAt.string Tryz.prog T).1 ⟨x.toArray⟩ ⟨y.toArray⟩ w
 rw [this]
 by_cases h : x = y <;> simp [h]
theorem neqStr (T : TypeId) : NeqAt Tryz.prog T encStr (fun x y => decide (x = y)) := by
 refine ⟨fun x y w => ?_, fun op a b x y w => (NeqAt.string Tryz.prog T).2 op a b ⟨x.toArray⟩ ⟨y.toArray⟩ w⟩
 have := (NeqAt.string Tryz.prog T).1 ⟨x.toArray⟩ ⟨y.toArray⟩ w
 rw [this]
 by_cases h : x = y <;> simp [h]
theorem compact_nodup {l : List (List UInt8)} (h : l.Nodup) : (compactUpTo l.toArray l.toArray.size) = l := by
 have : compact l = l := compact_all l (fun j hj => by
  unfold keeps
  rw [decide_eq_true_iff]
  by_cases h0 : j = 0
  ·
   exact .inl h0
  ·
   refine .inr (fun e => ?_)
   have h1 : l.toArray[j]! = l[j] := by simp [hj]
   have h2 : l.toArray[j - 1]! = l[j - 1] := by simp [show j - 1 < l.length by omega]
   rw [h1, h2] at e
   exact (List.pairwise_iff_getElem.1 h (j - 1) j (by omega) hj (by omega)) e.symm)
 simpa [compact] using this
set_option maxHeartbeats 4000000 in
set_option maxRecDepth 100000 in
theorem twice_any (B : Nat) (v : Value) (l : List (List UInt8)) (w : World) (hn : l.Nodup) (hl : l.length ≤ 1000000) (ho : w.ownsRow B 9 1 v l.length (l.map strV)) :
 Calls Tryz.prog 36 #[v] w fun e w' => e = .returned (.bool false) ∧ Fr (fun q => v.ownBlock = some q) w w' := by
 rcases ho.2 with ⟨h0, h1⟩ | ⟨g, cap, cur, hv, hg, hh, hc1, hc2, hc3, ht⟩
 ·
  subst h0
  have T1 := Lib.hid (sort0_any none 0 w)
  have T2 : Calls Tryz.prog 78 #[.slice none 0 0] w fun e w' => e = .returned (.slice none 0 0) ∧ w' = w := by
   go_enter Tryz.func78, Tryz.ntmps78
   go_wp2
   go_ret
   exact ⟨rfl, rfl⟩
  have T2 := Lib.hid T2
  clear ho
  go_enter Tryz.func36, Tryz.ntmps36
  go_wp2_with fail
  refine T1.out.mono ?_
  rintro e w1 ⟨rfl, rfl⟩
  go_wp2_with fail
  refine T2.out.mono ?_
  rintro e w1 ⟨rfl, rfl⟩
  go_wp2
  go_ret
  exact ⟨rfl, Fr.refl _ _⟩
 ·
  subst hv
  rw [Nat.mul_one] at ht
  have hperm : (l.mergeSort fun x y => decide (x ≤ y)).Perm l := List.mergeSort_perm l _
  have hts : (l.mergeSort fun x y => decide (x ≤ y)).Nodup := hperm.nodup_iff.2 hn
  have hlen : (l.mergeSort fun x y => decide (x ≤ y)).length = l.length := hperm.length_eq
  generalize hT : (l.mergeSort fun x y => decide (x ≤ y)) = ts at hts hlen
  have hgl : g < w.heap.size := (Array.getElem?_eq_some_iff.1 hh).1
  have T1 := Lib.hid ((Tryz.slices_Sort_string g 0 cap l w (holds_of_block hh ht) hgl (by omega)).mono (R' := fun e w' => e = .returned (.tuple #[]) ∧ w'.ownsRow B 9 1 (.slice (some ⟨g, 0, none⟩) l.length cap) l.length (ts.map strV) ∧ Fr (fun q => q = g) w w') (by
   rintro e w' ⟨rfl, n, os, rfl⟩
   rw [hT]
   exact ⟨rfl, ownsRow_sorted hlen hg hh (by simpa using hc1) hc2 hc3, Fr.of_grown (grownBy_sorted _) (fun q e => by injection e with e; exact e.symm)⟩))
  have T2 := Lib.hid (fun (W : World) (h : W.ownsRow B 9 1 (.slice (some ⟨g, 0, none⟩) l.length cap) l.length (ts.map strV)) => show Calls Tryz.prog 78 #[.slice (some ⟨g, 0, none⟩) l.length cap] W fun e w' => e = .returned (.slice (some ⟨g, 0, none⟩) l.length cap) ∧ Fr (fun q => q = g) W w' from by
   rcases h.2 with ⟨h0, _⟩ | ⟨g', cap', cur', hv', hg', hh', hc1', hc2', hc3', ht'⟩
   ·
    cases h0
   ·
    injection hv' with e1 e2 e3
    injection e1 with e1
    injection e1 with e1
    subst e1
    subst e3
    rw [Nat.mul_one, ← hlen] at ht'
    have := AnyE.slices_Compact Tryz.lCmp encStr (fun x => rfl) (eqlStr _) (neqStr _) [] (fun W => by kernel_rfl) g 0 cap ts.toArray W (holds_of_block hh' ht') (by simp; omega) (by simp; omega)
    rw [compact_nodup hts] at this
    have hsz : ts.toArray.size = l.length := by simpa using hlen
    rw [hsz] at this
    refine this.mono ?_
    rintro e w' ⟨rfl, q, rfl⟩
    exact ⟨by rw [hlen], frE encStr _⟩)
  clear ho hh hg hc1 hc2 hc3 ht
  go_enter Tryz.func36, Tryz.ntmps36
  go_wp2_with fail
  refine T1.out.mono ?_
  rintro e w1 ⟨rfl, ho1, hf1⟩
  have T3 := Lib.hid (T2.out w1 ho1)
  have HF1 := Lib.hid hf1
  clear T1 T2 ho1 hf1
  go_wp2_with fail
  refine T3.out.mono ?_
  rintro e w2 ⟨rfl, hf2⟩
  have HF2 := Lib.hid (HF1.out.trans hf2)
  clear T3 hf2
  go_wp2
  go_ret
  refine ⟨?_, HF2.out.imp (fun q _ e => by subst e; rfl)⟩
  simp
set_option maxHeartbeats 4000000 in
set_option maxRecDepth 100000 in
theorem type_any (ab : Nat) (M : Nat → Option Hg.Node) (id : Nat) (w : World) (hA : ArOk w ab M) (hid : id < idTop) (href : (ndAt M id).ref < idTop) :
 Calls Tryz.prog 44 #[.pointer (some ⟨ab, 0, none⟩), idV id] w fun e w' => e = .returned (.int .u8 (typeK M id : Int)) ∧ Below w.heap.size w w' := by
 have TG := Lib.hid (hA.getN hid)
 have HA := Lib.hid hA
 generalize hr : typeK M id = r
 unfold typeK at hr
 clear hA
 go_enter Tryz.func44, Tryz.ntmps44
 go_wp2_with fail
 refine TG.out.mono ?_
 rintro e w1 ⟨ka, kc, rfl, ho1, hb1⟩
 have hbn := boxed_node (w1 := w1) (ndAt M id) ka kc
 have hbw := hb1.alloc hb1.size (.cells #[.int .u8 ((ndAt M id).kind : Int), strV (ndAt M id).name, .int .i64 (ndAt M id).num, .int .u8 ((ndAt M id).type : Int), .int .u64 ((ndAt M id).ref : Int), .slice ka (ndAt M id).kids.length kc] 55)
 have c0 := hbn 0
 have c2 := hbn 2
 have c4 := hbn 4
 simp at c0 c2 c4
 have HB := Lib.hid hbw
 have T2 := Lib.hid ((HA.out.below hbw).getN href)
 generalize ndAt M id = nd at *
 obtain ⟨kd, nm, nu, ty, rf, ks⟩ := nd
 clear TG ho1 hb1 hbn hbw c0 c2 c4
 dsimp only at href HB T2 hr
 have HR := Lib.hid hr
 clear hr
 by_cases h13 : kd = 13
 ·
  subst h13
  go_wp2
  go_ret
  have hr := HR.out
  simp at hr
  subst hr
  exact ⟨rfl, HB.out⟩
 by_cases h17 : kd = 17
 ·
  subst h17
  go_wp2
  go_ret
  have hr := HR.out
  simp at hr
  subst hr
  exact ⟨rfl, HB.out⟩
 by_cases h20 : kd = 20
 ·
  subst h20
  go_wp2
  go_ret
  have hr := HR.out
  simp at hr
  subst hr
  exact ⟨rfl, HB.out⟩
 by_cases h14 : kd = 14
 ·
  subst h14
  go_wp2
  go_ret
  have hr := HR.out
  simp at hr
  subst hr
  exact ⟨rfl, HB.out⟩
 by_cases h16 : kd = 16
 ·
  subst h16
  go_wp2
  go_ret
  have hr := HR.out
  simp at hr
  subst hr
  exact ⟨rfl, HB.out⟩
 by_cases h18 : kd = 18
 ·
  subst h18
  by_cases h5 : nu ≤ 5
  ·
   go_wp2
   go_ret
   have hr := HR.out
   simp [h5] at hr
   subst hr
   exact ⟨rfl, HB.out⟩
  ·
   go_wp2
   go_ret
   have hr := HR.out
   simp at hr
   rw [if_neg (by omega)] at hr
   subst hr
   exact ⟨rfl, HB.out⟩
 have hq : ∀ n : Nat, kd ≠ n → ((kd : Int) == (n : Int)) = false := fun n h => by simpa using (show ¬ (kd : Int) = (n : Int) by omega)
 have q13 := hq 13 h13
 have q17 := hq 17 h17
 have q20 := hq 20 h20
 have q14 := hq 14 h14
 have q16 := hq 16 h16
 have q18 := hq 18 h18
 by_cases h15 : kd = 15
 ·
  subst h15
  clear q13 q17 q20 q14 q16 q18 hq
  go_wp2_with fail
  refine T2.out.mono ?_
  rintro e w2 ⟨ka2, kc2, rfl, ho2, hb2⟩
  have HB2 := Lib.hid ((HB.out.trans (hb2.mono HB.out.size)))
  clear T2 ho2 hb2
  go_wp2
  go_ret
  have hr := HR.out
  simp at hr
  subst hr
  exact ⟨rfl, HB2.out.alloc HB2.out.size _⟩
 by_cases h19 : kd = 19
 ·
  subst h19
  clear q13 q17 q20 q14 q16 q18 hq
  go_wp2_with fail
  refine T2.out.mono ?_
  rintro e w2 ⟨ka2, kc2, rfl, ho2, hb2⟩
  have HB2 := Lib.hid ((HB.out.trans (hb2.mono HB.out.size)))
  clear T2 ho2 hb2
  go_wp2
  go_ret
  have hr := HR.out
  simp at hr
  subst hr
  exact ⟨rfl, HB2.out.alloc HB2.out.size _⟩
 have q15 := hq 15 h15
 have q19 := hq 19 h19
 clear hq T2
 go_wp2
 go_ret
 have hr := HR.out
 rw [if_neg (by omega), if_neg (by omega), if_neg h18, if_neg (by omega)] at hr
 subst hr
 exact ⟨rfl, HB.out⟩
end Go.Proofs.YtbjecnbcoadfbaaGreatDoor
namespace Hg
def namesW (xs : List (Nat × Node)) : List Str := (xs.filter fun x => x.2.kind == 4 || x.2.kind == 6).map fun x => x.2.name
end Hg
namespace Go.Proofs.YtbjecnbcoadfbaaGreatDoor
open Go.RowKit
open Hg (GT gl wk isK ndAt kidsK modsK funcsK KB nameK typeK namesW)
attribute [local go_sem] Oper.semAt_some
theorem namesW_snoc (l : List (Nat × Hg.Node)) (p : Nat × Hg.Node) : namesW (l ++ [p]) = namesW l ++ (if p.2.kind == 4 || p.2.kind == 6 then [p.2.name] else []) := by
 unfold namesW
 rw [List.filter_append, List.map_append]
 congr 1
 by_cases h : (p.2.kind == 4 || p.2.kind == 6) = true
 ·
  simp [h]
 ·
  simp only [Bool.not_eq_true] at h
  simp [h]
theorem namesW_len (l : List (Nat × Hg.Node)) : (namesW l).length ≤ l.length := by unfold namesW; rw [List.length_map]; exact List.length_filter_le _ _
theorem wk_out (M : Nat → Option Hg.Node) : ∀ (f : Nat) (s seen : List Nat) (r : List (Nat × Hg.Node)), wk M f s seen = some r → r.length < f
 | 0, _, _, _, h => by cases h
 | f + 1, [], _, r, h => by rw [Hg.wk_nil] at h; injection h with h; subst h; simp
 | f + 1, i :: s, seen, r, h => by
   rw [Hg.wk_cons] at h
   cases hM : M i with
   | none => rw [hM] at h; have := wk_out M f s seen r h; omega
   | some n =>
     rw [hM] at h
     dsimp only at h
     by_cases hi : i ∈ seen
     ·
      rw [if_pos hi] at h; have := wk_out M f s seen r h; omega
     ·
      rw [if_neg hi] at h
      cases hw : wk M f (n.kids ++ s) (i :: seen) with
      | none => rw [hw] at h; cases h
      | some r' =>
        rw [hw] at h
        have h : (i, n) :: r' = r := Option.some.inj h
        have := wk_out M f _ _ r' hw
        rw [← h]; simp; omega
@[reducible] def ndCells (nd : Hg.Node) (ka : Option Addr) (kc : Nat) : Array Value := #[.int .u8 (nd.kind : Int), strV nd.name, .int .i64 nd.num, .int .u8 (nd.type : Int), .int .u64 (nd.ref : Int), .slice ka nd.kids.length kc]
def NamesI (B : Nat) (S : Nat → Prop) (pre : List WItem) (A : World) : Prop := ∃ v, A.heap[B]? = some (.cells #[v] 23 (0, 0)) ∧ A.ownsRow (B + 1) 9 1 v (namesW (pre.map WItem.strip)).length ((namesW (pre.map WItem.strip)).map strV) ∧ ∀ q, S q ↔ q = B ∨ v.ownBlock = some q
theorem NamesI.fr {B : Nat} {S : Nat → Prop} {pre : List WItem} {A A' : World} (h : NamesI B S pre A) (hf : Fr (fun q => ¬ S q) A A') : NamesI B S pre A' := by
 obtain ⟨v, h1, h2, h3⟩ := h
 exact ⟨v, hf.at_ h1 (fun h => h ((h3 B).2 (.inl rfl))), ownsRow_fr h2 hf (fun q e h => h ((h3 q).2 (.inr e))), h3⟩
theorem NamesI.lt {B : Nat} {S : Nat → Prop} {pre : List WItem} {A : World} (h : NamesI B S pre A) : ∀ q, S q → B ≤ q ∧ q < A.heap.size := by
 obtain ⟨v, h1, h2, h3⟩ := h
 intro q hq
 rcases (h3 q).1 hq with e | e
 ·
  subst e; exact ⟨Nat.le_refl _, (Array.getElem?_eq_some_iff.1 h1).1⟩
 ·
  have := h2.lt q e; exact ⟨by omega, this.2⟩
def namesA (p5 p7 : Value) (a : Act) : Prop := ∃ u0 u1 u2 u3 u4 u6 u8 u9 u10 u11 u12 u13 u14 u15 u16 u17 u18 u19 u20 u21 u22 u23 u24 u25 u26 : Value, a = { tmps := #[u0, u1, u2, u3, u4, p5, u6, p7, u8, u9, u10, u11, u12, u13, u14, u15, u16, u17, u18, u19, u20, u21, u22, u23, u24, u25, u26], defers := [] }
def NamesR (B : Nat) (S : Nat → Prop) (pre : List WItem) (x : WItem) (a : Act) (A : World) : Prop :=
 ∃ S0 blk, NamesI B S0 pre A ∧ namesA (.pointer (some ⟨B, 0, none⟩)) (.pointer (some ⟨blk, 0, none⟩)) a ∧ A.heap[blk]? = some (.cells (ndCells x.nd x.ka x.kc) 55 (0, 0)) ∧ (∀ q, S q ↔ S0 q ∨ q = blk) ∧ ¬ S0 blk
set_option maxHeartbeats 4000000 in
set_option maxRecDepth 100000 in
theorem knames_any (ab : Nat) (M : Nat → Option Hg.Node) (id F : Nat) (xs : List (Nat × Hg.Node)) (w : World) (hA : ArOk w ab M) (hid : id < idTop) (hxs : wk M F [id] [] = some xs) (hF : F ≤ 1000000) :
 Calls Tryz.prog 40 #[.pointer (some ⟨ab, 0, none⟩), idV id] w (StrRes w (namesW xs)) := by
 obtain ⟨i0, hi0, hz0, hz1, hz2⟩ := info_parts strInfo88
 have HA := Lib.hid hA
 have TW := Lib.hid (walk_any ab id)
 refine (callsIn_wide (n := 5)).1 (callsIn_of_wp_marks Tryz.func40 rfl trivial ?_ rfl)
 simp only [Tryz.ntmps40, List.size_toArray, List.length_cons, List.length_nil, Nat.reduceAdd, Nat.reduceSub, Array.replicate_succ, Array.replicate_zero, List.push_toArray, List.append_toArray, List.nil_append, List.cons_append]
 gi_wp2_with fail
 refine ⟨trivial, (callsIn_wide.2 (TW.out _)).mono ?_⟩
 rintro e w1 ⟨rfl, rfl⟩
 gi_wp2
 obtain ⟨⟨mb, c, hAr⟩, hkb⟩ := HA.out
 have hb0 : Below w.heap.size w (((w.alloc (.cells #[.slice none 0 0] 23)).alloc (.cells #[.pointer (some ⟨ab, 0, none⟩)] 24)).alloc (.cells #[idV id] 31)) := (((Below.refl _ _).alloc (Nat.le_refl _) _).alloc (by simp) _).alloc (by simp; omega) _
 have hzW : (((w.alloc (.cells #[.slice none 0 0] 23)).alloc (.cells #[.pointer (some ⟨ab, 0, none⟩)] 24)).alloc (.cells #[idV id] 31)).heap.size = w.heap.size + 3 := by simp
 have h0 : (((w.alloc (.cells #[.slice none 0 0] 23)).alloc (.cells #[.pointer (some ⟨ab, 0, none⟩)] 24)).alloc (.cells #[idV id] 31)).heap[w.heap.size]? = some (.cells #[.slice none 0 0] 23 (0, 0)) := (heap_alloc_old _ _ (by simp; omega)).trans ((heap_alloc_old _ _ (by simp)).trans (heap_alloc_new w _))
 have h1 : (((w.alloc (.cells #[.slice none 0 0] 23)).alloc (.cells #[.pointer (some ⟨ab, 0, none⟩)] 24)).alloc (.cells #[idV id] 31)).heap[w.heap.size + 1]? = some (.cells #[.pointer (some ⟨ab, 0, none⟩)] 24 (0, 0)) := by
  have := heap_alloc_new (w.alloc (.cells #[.slice none 0 0] 23)) (.cells #[.pointer (some ⟨ab, 0, none⟩)] 24)
  rw [show (w.alloc (.cells #[.slice none 0 0] 23)).heap.size = w.heap.size + 1 by simp] at this
  exact (heap_alloc_old _ _ (by simp)).trans this
 have h2 : (((w.alloc (.cells #[.slice none 0 0] 23)).alloc (.cells #[.pointer (some ⟨ab, 0, none⟩)] 24)).alloc (.cells #[idV id] 31)).heap[w.heap.size + 2]? = some (.cells #[idV id] 31 (0, 0)) := by
  have := heap_alloc_new ((w.alloc (.cells #[.slice none 0 0] 23)).alloc (.cells #[.pointer (some ⟨ab, 0, none⟩)] 24)) (.cells #[idV id] 31)
  rw [show ((w.alloc (.cells #[.slice none 0 0] 23)).alloc (.cells #[.pointer (some ⟨ab, 0, none⟩)] 24)).heap.size = w.heap.size + 2 by simp] at this
  exact this
 generalize World.alloc (World.alloc (World.alloc w _) _) _ = W1 at hb0 hzW h0 h1 h2 ⊢
 have hseq := walk_seq ab mb c M w.heap.size id (w.heap.size + 2) (w.heap.size + 1) F xs W1 (fun W' hf => hAr.below (hb0.trans (hf.below' (by omega))) (Nat.le_refl _)) (cell_of_row W1 (w.heap.size + 2) 0 _ _ (0, 0) h2) (cell_of_row W1 (w.heap.size + 1) 0 _ _ (0, 0) h1) ⟨by omega, by omega, by omega, by omega⟩ hid hkb hxs hF
 have HB0 := Lib.hid hb0
 have hxl := wk_out M F _ _ _ hxs
 clear hA TW hAr hkb h1 h2
 refine wpIn_walk (gf := 67) rfl (enters_of Tryz.func67 (by kernel_rfl) rfl) hseq (Fr.refl _ _) rfl (fun q h => by rcases h with h | h <;> omega) (by omega)
  (NamesI w.heap.size) (fun _ _ _ _ => False) (NamesR w.heap.size) (fun S pre A A' h hf => h.fr hf) (fun _ _ _ _ _ h _ => h) ?hI1 (fun S pre A h q hq => (h.lt q hq).2) ?hI1l
  (fun q => q = w.heap.size) ⟨_, h0, ⟨rfl, .inl ⟨rfl, rfl⟩⟩, fun q => by simp [Value.ownBlock]⟩ (fun q e => by subst e; exact ⟨Nat.le_refl _, by omega, by omega⟩) ?assign ?body ?done ?stop
 case hI1 =>
  rintro S pre x a A A' ⟨S0, blk, hi, ha, hb, hS, hn⟩ hf
  exact ⟨S0, blk, hi.fr (hf.imp (fun q _ h h' => h (.inl ((hS q).2 (.inl h'))))), ha, hf.at_ hb (fun h => h (.inl ((hS blk).2 (.inr rfl)))), hS, hn⟩
 case hI1l =>
  rintro S pre x a A ⟨S0, blk, hi, ha, hb, hS, hn⟩ q hq
  rcases (hS q).1 hq with h | h
  ·
   exact (hi.lt q h).2
  ·
   subst h; exact (Array.getElem?_eq_some_iff.1 hb).1
 case assign =>
  intro l m S pre x A K hi hpre hx hkb hf hK
  gi_wp2
  refine hK (fun q => S q ∨ q = A.heap.size) _ _ ⟨S, A.heap.size, hi.fr ((Fr.refl _ _).alloc _), ?_, heap_alloc_new A _, fun q => Iff.rfl, fun h => by have := (hi.lt _ h).2; omega⟩ ((Fr.refl _ _).alloc _) (fun q h => h.imp (fun h => h) (fun h => by omega))
  exact ⟨_, _, _, _, _, _, _, _, _, _, _, _, _, _, _, _, _, _, _, _, _, _, _, _, _, rfl⟩
 case body =>
  rintro l m S pre x a1 A ⟨S0, blk, ⟨v, hbx, hrow, hSv⟩, ha, hb, hS, hn⟩ hpre hf
  obtain ⟨u0, u1, u2, u3, u4, u6, u8, u9, u10, u11, u12, u13, u14, u15, u16, u17, u18, u19, u20, u21, u22, u23, u24, u25, u26, rfl⟩ := ha
  have hlen : (namesW (pre.map WItem.strip)).length ≤ 1000000 := by
   have h1 := namesW_len (pre.map WItem.strip)
   have h2 := hpre.length_le
   simp at h1 h2
   omega
  have hsn := namesW_snoc (pre.map WItem.strip) x.strip
  rw [show pre.map WItem.strip ++ [x.strip] = (pre ++ [x]).map WItem.strip by simp] at hsn
  have e0 := cell_of_row A blk 0 _ _ (0, 0) hb
  have e1 := cell_of_row A blk 1 _ _ (0, 0) hb
  have eB := cell_of_row A w.heap.size 0 _ _ (0, 0) hbx
  have fB : A.frozen? ⟨w.heap.size, 0, none⟩ = false := by simp [World.frozen?, hbx]
  have hBl := (Array.getElem?_eq_some_iff.1 hbx).1
  have hbl := (Array.getElem?_eq_some_iff.1 hb).1
  simp at e0 e1 eB
  generalize hnd : x.nd = nd at e0 e1
  have HSN := Lib.hid hsn
  have HND := Lib.hid hnd
  have HROW := Lib.hid hrow
  have HBX := Lib.hid hbx
  have HSS := Lib.hid (And.intro hSv hS)
  clear hsn hrow hSv hS hb hpre hf
  by_cases hk : nd.kind = 4 ∨ nd.kind = 6
  ·
   have hcond : (x.strip.2.kind == 4 || x.strip.2.kind == 6) = true := by
    show (x.nd.kind == 4 || x.nd.kind == 6) = true
    rw [hnd]
    rcases hk with h | h <;> simp [h]
   rw [hcond] at HSN
   have HSN2 := Lib.hid (show namesW ((pre ++ [x]).map WItem.strip) = namesW (pre.map WItem.strip) ++ [nd.name] from by rw [HSN.out, ← hnd]; rfl)
   have hq : ((nd.kind : Int) == 4) = true ∨ (((nd.kind : Int) == 4) = false ∧ ((nd.kind : Int) == 6) = true) := by
    rcases hk with h | h
    ·
     exact .inl (by simp [h])
    ·
     exact .inr ⟨by simp [h], by simp [h]⟩
   clear hcond HSN hnd hk
   rcases hq with hq | ⟨hq, hq6⟩
   ·
    skip
    gi_wp2_with (gi_at_builtin; refine wpListIn_append_own_at _ rfl (.tmp 21) (.tmp 24) _ rfl (w.heap.size + 1) 9 i0 _ 1 16 Tryz.underlying23 hi0 hz0 hz1 hz2 rfl (by decide) _ (namesW (pre.map WItem.strip)).length ((namesW (pre.map WItem.strip)).map strV) rfl (HROW.out.alloc _) ⟨A.heap.size, 0, none⟩ 1 1 [strV nd.name] rfl rfl (cells_new _ _ _) ?_ ?_ ?_ ?_ ?_)
    all_goals first
     | intro v3 W3 own3 g3 _ at3
     | (unfold maxLen; omega)
     | omega
     | (simp; omega)
     | (intro u hu; simp only [List.mem_singleton] at hu; subst hu; rfl)
    obtain ⟨y3, z3, rfl⟩ := ownsRow_succ own3
    have hfa : Fr (fun q => v.ownBlock = some q) A W3 := ((Fr.refl _ A).alloc _).step g3 (fun q e => .inl e)
    have hb3 : W3.heap[w.heap.size]? = some (.cells #[v] 23 (0, 0)) := hfa.at_ HBX.out (fun e => by have := (HROW.out.lt _ e).1; omega)
    have c3 : W3.cell? ⟨w.heap.size, 0, none⟩ = some v := by have := cell_of_row W3 w.heap.size 0 _ _ (0, 0) hb3; simpa using this
    have f3 : W3.frozen? ⟨w.heap.size, 0, none⟩ = false := by simp [World.frozen?, hb3]
    have hBl3 : w.heap.size < W3.heap.size := (Array.getElem?_eq_some_iff.1 hb3).1
    have HFIN := Lib.hid (show ∃ S', NamesI w.heap.size S' (pre ++ [x]) (W3.setCell ⟨w.heap.size, 0, none⟩ (.slice (some ⟨y3, 0, none⟩) ((namesW (pre.map WItem.strip)).length + 1) z3)) ∧ Fr S A (W3.setCell ⟨w.heap.size, 0, none⟩ (.slice (some ⟨y3, 0, none⟩) ((namesW (pre.map WItem.strip)).length + 1) z3)) ∧ ∀ q, S' q → S q ∨ A.heap.size ≤ q from by
     refine ⟨fun q => q = w.heap.size ∨ y3 = q, ⟨_, heap_setCell_same hb3 _, ?_, fun q => by simp [Value.ownBlock]⟩, ?_, fun q hq => ?_⟩
     ·
      rw [HSN2.out, List.map_append, List.length_append]
      exact ownsRow_fr own3 ((Fr.refl (fun q => q = w.heap.size) W3).set (p := ⟨w.heap.size, 0, none⟩) (.inl rfl) _) (fun q e e' => by have := (own3.lt q e).1; omega)
     ·
      refine (hfa.imp (fun q _ e => (HSS.out.2 q).2 (.inl ((HSS.out.1 q).2 (.inr e))))).set (p := ⟨w.heap.size, 0, none⟩) (.inl ((HSS.out.2 w.heap.size).2 (.inl ((HSS.out.1 w.heap.size).2 (.inl rfl))))) _
     ·
      rcases hq with e | e
      ·
       exact .inl ((HSS.out.2 q).2 (.inl ((HSS.out.1 q).2 (.inl e))))
      ·
       rcases at3 with h | h
       ·
        exact .inl ((HSS.out.2 q).2 (.inl ((HSS.out.1 q).2 (.inr (by rw [← h, ← e]; rfl)))))
       ·
        injection h with h
        have h : y3 = _ := h
        try simp at h
        exact .inr (by omega))
    clear own3 g3 at3 hfa hb3
    gi_wp2
    exact HFIN.out
   ·
    skip
    gi_wp2_with (gi_at_builtin; refine wpListIn_append_own_at _ rfl (.tmp 21) (.tmp 24) _ rfl (w.heap.size + 1) 9 i0 _ 1 16 Tryz.underlying23 hi0 hz0 hz1 hz2 rfl (by decide) _ (namesW (pre.map WItem.strip)).length ((namesW (pre.map WItem.strip)).map strV) rfl (HROW.out.alloc _) ⟨A.heap.size, 0, none⟩ 1 1 [strV nd.name] rfl rfl (cells_new _ _ _) ?_ ?_ ?_ ?_ ?_)
    all_goals first
     | intro v3 W3 own3 g3 _ at3
     | (unfold maxLen; omega)
     | omega
     | (simp; omega)
     | (intro u hu; simp only [List.mem_singleton] at hu; subst hu; rfl)
    obtain ⟨y3, z3, rfl⟩ := ownsRow_succ own3
    have hfa : Fr (fun q => v.ownBlock = some q) A W3 := ((Fr.refl _ A).alloc _).step g3 (fun q e => .inl e)
    have hb3 : W3.heap[w.heap.size]? = some (.cells #[v] 23 (0, 0)) := hfa.at_ HBX.out (fun e => by have := (HROW.out.lt _ e).1; omega)
    have c3 : W3.cell? ⟨w.heap.size, 0, none⟩ = some v := by have := cell_of_row W3 w.heap.size 0 _ _ (0, 0) hb3; simpa using this
    have f3 : W3.frozen? ⟨w.heap.size, 0, none⟩ = false := by simp [World.frozen?, hb3]
    have hBl3 : w.heap.size < W3.heap.size := (Array.getElem?_eq_some_iff.1 hb3).1
    have HFIN := Lib.hid (show ∃ S', NamesI w.heap.size S' (pre ++ [x]) (W3.setCell ⟨w.heap.size, 0, none⟩ (.slice (some ⟨y3, 0, none⟩) ((namesW (pre.map WItem.strip)).length + 1) z3)) ∧ Fr S A (W3.setCell ⟨w.heap.size, 0, none⟩ (.slice (some ⟨y3, 0, none⟩) ((namesW (pre.map WItem.strip)).length + 1) z3)) ∧ ∀ q, S' q → S q ∨ A.heap.size ≤ q from by
     refine ⟨fun q => q = w.heap.size ∨ y3 = q, ⟨_, heap_setCell_same hb3 _, ?_, fun q => by simp [Value.ownBlock]⟩, ?_, fun q hq => ?_⟩
     ·
      rw [HSN2.out, List.map_append, List.length_append]
      exact ownsRow_fr own3 ((Fr.refl (fun q => q = w.heap.size) W3).set (p := ⟨w.heap.size, 0, none⟩) (.inl rfl) _) (fun q e e' => by have := (own3.lt q e).1; omega)
     ·
      refine (hfa.imp (fun q _ e => (HSS.out.2 q).2 (.inl ((HSS.out.1 q).2 (.inr e))))).set (p := ⟨w.heap.size, 0, none⟩) (.inl ((HSS.out.2 w.heap.size).2 (.inl ((HSS.out.1 w.heap.size).2 (.inl rfl))))) _
     ·
      rcases hq with e | e
      ·
       exact .inl ((HSS.out.2 q).2 (.inl ((HSS.out.1 q).2 (.inl e))))
      ·
       rcases at3 with h | h
       ·
        exact .inl ((HSS.out.2 q).2 (.inl ((HSS.out.1 q).2 (.inr (by rw [← h, ← e]; rfl)))))
       ·
        injection h with h
        have h : y3 = _ := h
        try simp at h
        exact .inr (by omega))
    clear own3 g3 at3 hfa hb3
    gi_wp2
    exact HFIN.out
  ·
   have hcond : (x.strip.2.kind == 4 || x.strip.2.kind == 6) = false := by
    show (x.nd.kind == 4 || x.nd.kind == 6) = false
    rw [hnd]
    simp; omega
   rw [hcond] at HSN
   have HSN2 := Lib.hid (show namesW ((pre ++ [x]).map WItem.strip) = namesW (pre.map WItem.strip) from by rw [HSN.out]; simp)
   have q4 : ((nd.kind : Int) == 4) = false := by simp; omega
   have q6 : ((nd.kind : Int) == 6) = false := by simp; omega
   clear hcond HSN hnd hk
   gi_wp2
   exact ⟨_, ⟨v, HBX.out, by rw [HSN2.out]; exact HROW.out, HSS.out.1⟩, Fr.refl _ _, fun q h => .inl ((HSS.out.2 q).2 (.inl h))⟩
 case done =>
  rintro S ys W hys ⟨v, hbx, hrow, hSv⟩ hK hnS hf
  have eB := cell_of_row W w.heap.size 0 _ _ (0, 0) hbx
  simp at eB
  have hpf := putObj_fr W W1.heap.size (.deferred none)
  have hnv : ∀ q, v.ownBlock = some q → ¬ q = W1.heap.size := fun q e e' => hnS ((hSv _).2 (.inr (e' ▸ e)))
  have HFIN := Lib.hid (show (∃ u, (Ending.returned v = .returned u) ∧ (W.putObj W1.heap.size (.deferred none)).ownsRow w.heap.size 9 1 u (namesW xs).length ((namesW xs).map strV)) ∧ Below w.heap.size w (W.putObj W1.heap.size (.deferred none)) from ⟨⟨v, rfl, by
   rw [← hys]
   exact ownsRow_base (ownsRow_fr hrow hpf (fun q e e' => hnv q e e')) (by omega)⟩, by
   have h1 := HB0.out.trans ((hf.imp (D' := fun q => w.heap.size ≤ q) (fun q _ e => by rcases e with e | e | e <;> omega)).below' (by omega))
   exact h1.trans ((hpf.imp (D' := fun q => w.heap.size ≤ q) (fun q _ e => by omega)).below' h1.size)⟩)
  clear hbx hrow hSv hf hpf hnv
  gi_wp2
  refine ⟨by simp, .inl ⟨_, _, rfl, run_takeDeferred hK, ?_⟩⟩
  refine ⟨_, results_tmp rfl _ _ _, ?_⟩
  exact HFIN.out
 case stop =>
  intro c S pre W hpre h
  exact h.elim
end Go.Proofs.YtbjecnbcoadfbaaGreatDoor
