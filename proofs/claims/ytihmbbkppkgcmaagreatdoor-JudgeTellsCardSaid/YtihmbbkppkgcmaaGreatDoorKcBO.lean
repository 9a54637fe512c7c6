/-
  Part of a proof: contracts of functions that the claim reaches, and plain lemmas.
-/
import Derived.Test.YtihmbbkppkgcmaaGreatDoorKcBN
import Derived.Test.YtihmbbkppkgcmaaGreatDoorKcAD
import Derived.Test.YtihmbbkppkgcmaaGreatDoorKcBK
import Derived.Test.YtihmbbkppkgcmaaGreatDoorKcAX
import Derived.Test.YtihmbbkppkgcmaaGreatDoorKcBC
import Derived.Test.YtihmbbkppkgcmaaGreatDoorKcAJ
import Derived.Test.YtihmbbkppkgcmaaGreatDoorKcBL
set_option linter.all false
namespace Go.Proofs.YtihmbbkppkgcmaaGreatDoor
open Go.RowKit
structure Opn where
 k : Nat
 a : Nat
 b : Nat
 n : List UInt8
@[reducible] def Opn.v (o : Opn) : Value := opV o.k o.a o.b o.n
structure Opn.Small (o : Opn) : Prop where
 k : o.k ≤ 255
 a : o.a ≤ 1000000
 n : o.n.length ≤ 1000000
def OfIs (M : ArM) (o : Opn) (ws : List Nat) (cs : List Cl) (kn : Bool) : Prop :=
 (kn = true ∧ ws = [o.a] ∧ ∃ nd r, M o.a = some nd ∧ nd.kind = wantsN o.k ∧ wantsN o.k ≠ 0 ∧ OpOk o.k o.a o.n ∧ o.b = 0 ∧ ScopeIs M o.a r ∧ cs = if o.k = 14 then [] else [(r, o.n), (r, nd.name)]) ∨
 (kn = false ∧ ws = [] ∧ cs = [] ∧ (M o.a = none ∨ wantsN o.k = 0 ∨ ∃ nd, M o.a = some nd ∧ nd.kind ≠ wantsN o.k))
theorem OfIs.len {M : ArM} {o : Opn} {ws : List Nat} {cs : List Cl} {kn : Bool} (h : OfIs M o ws cs kn) : ws.length ≤ 1 ∧ cs.length ≤ 2 := by
 rcases h with ⟨_, rfl, nd, r, _, _, _, _, _, _, rfl⟩ | ⟨_, rfl, rfl, _⟩
 ·
  refine ⟨by simp, ?_⟩
  split <;> simp
 ·
  simp
theorem of_any (ab mb c : Nat) (M : ArM) (o : Opn) (ws : List Nat) (cs : List Cl) (kn : Bool) (w : World) (hA : ArAt w ab mb c M) (hO : ArOk M) (hs : o.Small) (hT : TabOk w) (h : OfIs M o ws cs kn) :
 Calls Tryz.prog 12 #[.pointer (some ⟨ab, 0, none⟩), o.v] w fun e w' => ∃ v, e = .returned v ∧ PrintAt w' v ws cs kn ∧ Below w.heap.size w w' := by
 have hit : o.a < idTop := by have := hs.a; unfold idTop; omega
 have TG : ∀ W, Below w.heap.size w W → Calls Tryz.prog 15 #[.pointer (some ⟨ab, 0, none⟩), .int .u64 (o.a : Int)] W (GetRes1 W ((M o.a).getD Hg.Node.zero) (M o.a).isSome) := fun W hb => get_any ab mb c M o.a W (hA.below hb (Nat.le_refl _)) hit
 rcases h with ⟨rfl, rfl, nd, r, hM, hk, hw, hok, hb, hsc, rfl⟩ | ⟨rfl, rfl, rfl, h⟩
 ·
  rw [hM] at TG
  exact of_yes _ o.k o.a o.b o.n nd.kind nd.name nd.num nd.type nd.ref nd.kids w hs.k TG hw hk hb hok hs.n hT r (fun W hbW => scope_any ab mb c M o.a r W (hA.below hbW (Nat.le_refl _)) hO hs.a hsc)
 ·
  cases hM : M o.a with
  | none =>
    rw [hM] at TG
    exact of_no1 _ o.k o.a o.b o.n _ _ _ _ _ _ w hs.k TG
  | some nd =>
    rw [hM] at TG
    by_cases hw : wantsN o.k = 0
    ·
     exact of_no2 _ o.k o.a o.b o.n nd.kind nd.name nd.num nd.type nd.ref nd.kids w hs.k TG hw
    ·
     refine of_no3 _ o.k o.a o.b o.n nd.kind nd.name nd.num nd.type nd.ref nd.kids w hs.k TG hw ?_
     rcases h with h | h | ⟨nd', h, hne⟩
     ·
      rw [hM] at h; cases h
     ·
      exact absurd h hw
     ·
      rw [hM] at h; injection h with h; subst h; exact hne
set_option maxHeartbeats 8000000 in
set_option maxRecDepth 100000 in
theorem commute_any (ab mb c : Nat) (M : ArM) (x y : Opn) (ws ws' : List Nat) (cs cs' : List Cl) (kn kn' : Bool) (w : World) (hA : ArAt w ab mb c M) (hO : ArOk M) (hsx : x.Small) (hsy : y.Small) (hT : TabOk w) (hx : OfIs M x ws cs kn) (hy : OfIs M y ws' cs' kn') :
 Calls Tryz.prog 13 #[.pointer (some ⟨ab, 0, none⟩), x.v, y.v] w fun e w' => e = .returned (.bool (!meetsB ws ws' cs cs' kn kn')) ∧ Below w.heap.size w w' := by
 have HL := Lib.hid (show ws.length ≤ 1000000 ∧ ws'.length ≤ 1000000 ∧ cs.length ≤ 1000000 ∧ cs'.length ≤ 1000000 from by have h1 := hx.len; have h2 := hy.len; omega)
 have hbA : Below w.heap.size w ((w.alloc (.cells #[.int .u8 (x.k : Int), .int .u64 (x.a : Int), .int .u64 (x.b : Int), strV x.n] 43)).alloc (.cells #[.int .u8 (y.k : Int), .int .u64 (y.a : Int), .int .u64 (y.b : Int), strV y.n] 43)) := ((Below.refl _ _).alloc (Nat.le_refl _) _).alloc (by simp) _
 have hh1 := heap_alloc2_old w (.cells #[.int .u8 (x.k : Int), .int .u64 (x.a : Int), .int .u64 (x.b : Int), strV x.n] 43) (.cells #[.int .u8 (y.k : Int), .int .u64 (y.a : Int), .int .u64 (y.b : Int), strV y.n] 43)
 have hh2 := heap_alloc2_new w (.cells #[.int .u8 (x.k : Int), .int .u64 (x.a : Int), .int .u64 (x.b : Int), strV x.n] 43) (.cells #[.int .u8 (y.k : Int), .int .u64 (y.a : Int), .int .u64 (y.b : Int), strV y.n] 43)
 have hzA : ((w.alloc (.cells #[.int .u8 (x.k : Int), .int .u64 (x.a : Int), .int .u64 (x.b : Int), strV x.n] 43)).alloc (.cells #[.int .u8 (y.k : Int), .int .u64 (y.a : Int), .int .u64 (y.b : Int), strV y.n] 43)).heap.size = w.heap.size + 2 := by simp
 have HW := Lib.hid (show ∀ WA, Below w.heap.size w WA → ∀ W, Below WA.heap.size WA W → Calls Tryz.prog 12 #[.pointer (some ⟨ab, 0, none⟩), x.v] W fun e w' => ∃ v, e = .returned v ∧ PrintAt w' v ws cs kn ∧ Below W.heap.size W w' from fun WA h W h' =>
  have hb := h.trans (h'.mono h.size)
  of_any ab mb c M x ws cs kn W (hA.below hb (Nat.le_refl _)) hO hsx (hT.below hb hT.lt) hx)
 have HV := Lib.hid (show ∀ WA, Below w.heap.size w WA → ∀ W, Below WA.heap.size WA W → Calls Tryz.prog 12 #[.pointer (some ⟨ab, 0, none⟩), y.v] W fun e w' => ∃ v, e = .returned v ∧ PrintAt w' v ws' cs' kn' ∧ Below W.heap.size W w' from fun WA h W h' =>
  have hb := h.trans (h'.mono h.size)
  of_any ab mb c M y ws' cs' kn' W (hA.below hb (Nat.le_refl _)) hO hsy (hT.below hb hT.lt) hy)
 clear hA hO hsx hsy hT hx hy
 go_enter Tryz.func13, Tryz.ntmps13
 go_upto_region 1 with fail
 generalize World.alloc (World.alloc w _) _ = WA at hbA hh1 hh2 hzA ⊢
 have TX := Lib.hid (HW.out WA hbA)
 have TY := Lib.hid (HV.out WA hbA)
 have hxl : w.heap.size < WA.drew.heap.size := by show w.heap.size < WA.heap.size; omega
 have hyl : w.heap.size + 1 < WA.drew.heap.size := by show w.heap.size + 1 < WA.heap.size; omega
 have kx := fun i => cell_of_row WA w.heap.size i _ _ (0, 0) hh1
 have ky := fun i => cell_of_row WA (w.heap.size + 1) i _ _ (0, 0) hh2
 have x0 := kx 0; have x1 := kx 1; have x2 := kx 2; have x3 := kx 3
 have y0 := ky 0; have y1 := ky 1; have y2 := ky 2; have y3 := ky 3
 simp at x0 x1 x2 x3 y0 y1 y2 y3
 have HBA := Lib.hid (hbA.trans ((Below.refl _ _).drew.mono hbA.size))
 have hzw : w.heap.size ≤ WA.drew.heap.size := by show w.heap.size ≤ WA.heap.size; omega
 have HZW := Lib.hid hzw
 clear hbA hh1 hh2 hzA kx ky hzw
 generalize hxb : w.heap.size = xb at x0 x1 x2 x3 y0 y1 y2 y3 hxl hyl ⊢
 clear hxb
 have hHeld : (fun w' => w'.cell? ⟨xb, 0, none⟩ = some (.int .u8 (x.k : Int)) ∧ w'.cell? ⟨xb, 1, none⟩ = some (.int .u64 (x.a : Int)) ∧ w'.cell? ⟨xb, 2, none⟩ = some (.int .u64 (x.b : Int)) ∧ w'.cell? ⟨xb, 3, none⟩ = some (strV x.n) ∧ w'.cell? ⟨xb + 1, 0, none⟩ = some (.int .u8 (y.k : Int)) ∧ w'.cell? ⟨xb + 1, 1, none⟩ = some (.int .u64 (y.a : Int)) ∧ w'.cell? ⟨xb + 1, 2, none⟩ = some (.int .u64 (y.b : Int)) ∧ w'.cell? ⟨xb + 1, 3, none⟩ = some (strV y.n)) WA.drew := ⟨x0, x1, x2, x3, y0, y1, y2, y3⟩
 refine wp_region_two (fun w' => w'.cell? ⟨xb, 0, none⟩ = some (.int .u8 (x.k : Int)) ∧ w'.cell? ⟨xb, 1, none⟩ = some (.int .u64 (x.a : Int)) ∧ w'.cell? ⟨xb, 2, none⟩ = some (.int .u64 (x.b : Int)) ∧ w'.cell? ⟨xb, 3, none⟩ = some (strV x.n) ∧ w'.cell? ⟨xb + 1, 0, none⟩ = some (.int .u8 (y.k : Int)) ∧ w'.cell? ⟨xb + 1, 1, none⟩ = some (.int .u64 (y.a : Int)) ∧ w'.cell? ⟨xb + 1, 2, none⟩ = some (.int .u64 (y.b : Int)) ∧ w'.cell? ⟨xb + 1, 3, none⟩ = some (strV y.n)) 8 (by kernel_rfl) ?_
 refine tk 0 ?_ rfl (by kernel_rfl) (fun _ _ _ h => h) ‹_› ?_ ?_ (tk 1 ?_ rfl (by kernel_rfl) (fun _ _ _ h => h) ‹_› ?_ ?_ (tk 3 ?_ rfl (by kernel_rfl) (fun _ _ _ h => h) ‹_› ?_ ?_ (tk 4 ?_ rfl (by kernel_rfl) (fun _ _ _ h => h) ‹_› ?_ ?_ ?_)))
 all_goals try (first | rfl | ((try simp only [Act.put, sA, sB, sC]); intro w' hSw; (try dsimp only at hSw); go_simp; try with_reducible rfl))
 try simp only [Act.put, sA, sB, sC]
 refine wpAnyT_one (i := 2) rfl (by kernel_rfl) (fun K hK => ?_)
 go_simp
 refine (TX.out WA.drew ((Below.refl _ _).drew)).mono ?_
 rintro e w3 ⟨p, rfl, hp3, hb3⟩
 have HP3 := Lib.hid hp3
 have HB3 := Lib.hid hb3
 obtain ⟨pa1, pc1, pa2, pc2, rfl, _, _⟩ := hp3
 refine hK.out _ _ (⟨(hb3.cell hxl).trans hHeld.1, (hb3.cell hxl).trans hHeld.2.1, (hb3.cell hxl).trans hHeld.2.2.1, (hb3.cell hxl).trans hHeld.2.2.2.1, (hb3.cell hyl).trans hHeld.2.2.2.2.1, (hb3.cell hyl).trans hHeld.2.2.2.2.2.1, (hb3.cell hyl).trans hHeld.2.2.2.2.2.2.1, (hb3.cell hyl).trans hHeld.2.2.2.2.2.2.2⟩) (fun hHeld => ?_)
 clear hK K
 try simp only [Act.put, sA, sB, sC]
 refine wpAnyT_one (i := 5) rfl (by kernel_rfl) (fun K hK => ?_)
 go_simp
 refine (TY.out w3 (((Below.refl _ _).drew).trans HB3.out)).mono ?_
 rintro e w5 ⟨q, rfl, hq5, hb5⟩
 have HQ5 := Lib.hid hq5
 have HP5 := Lib.hid (HP3.out.below hb5)
 have HB5 := Lib.hid hb5
 obtain ⟨qa1, qc1, qa2, qc2, rfl, _, _⟩ := hq5
 have hxl3 : xb < w3.heap.size := Nat.lt_of_lt_of_le hxl HB3.out.size
 have hyl3 : xb + 1 < w3.heap.size := Nat.lt_of_lt_of_le hyl HB3.out.size
 refine hK.out _ _ (⟨(hb5.cell hxl3).trans hHeld.1, (hb5.cell hxl3).trans hHeld.2.1, (hb5.cell hxl3).trans hHeld.2.2.1, (hb5.cell hxl3).trans hHeld.2.2.2.1, (hb5.cell hyl3).trans hHeld.2.2.2.2.1, (hb5.cell hyl3).trans hHeld.2.2.2.2.2.1, (hb5.cell hyl3).trans hHeld.2.2.2.2.2.2.1, (hb5.cell hyl3).trans hHeld.2.2.2.2.2.2.2⟩) (fun hHeld => ?_)
 clear hK K
 try simp only [Act.put, sA, sB, sC]
 refine wpAnyT_one (i := 6) rfl (by kernel_rfl) (fun K hK => ?_)
 go_simp
 refine (meets_any _ _ _ _ _ _ _ _ w5 HP5.out HQ5.out HL.out).mono ?_
 rintro e w6 ⟨rfl, hb6⟩
 have HB6 := Lib.hid hb6
 have hxl5 : xb < w5.heap.size := Nat.lt_of_lt_of_le hxl3 HB5.out.size
 have hyl5 : xb + 1 < w5.heap.size := Nat.lt_of_lt_of_le hyl3 HB5.out.size
 refine hK.out _ _ (⟨(hb6.cell hxl5).trans hHeld.1, (hb6.cell hxl5).trans hHeld.2.1, (hb6.cell hxl5).trans hHeld.2.2.1, (hb6.cell hxl5).trans hHeld.2.2.2.1, (hb6.cell hyl5).trans hHeld.2.2.2.2.1, (hb6.cell hyl5).trans hHeld.2.2.2.2.2.1, (hb6.cell hyl5).trans hHeld.2.2.2.2.2.2.1, (hb6.cell hyl5).trans hHeld.2.2.2.2.2.2.2⟩) (fun hHeld => ?_)
 clear hK K
 try simp only [Act.put, sA, sB, sC]
 refine wpAnyT_take (i := 7) (v := ?_) rfl (by kernel_rfl) (fun _ _ _ h => h) (by assumption) (Or.inl ⟨by rfl, ?_⟩) ?_
 rotate_left
 ·
  (intro w' hSw; (try dsimp only at hSw); go_simp; try with_reducible rfl)
 try simp only [Act.put, sA, sB, sC]
 refine wpAnyT_tail (by kernel_rfl) ?_
 simp only [List.drop_succ_cons, List.drop_zero]
 have HF := Lib.hid (HBA.out.trans ((HB3.out.trans ((HB5.out.trans (HB6.out.mono HB5.out.size)).mono HB3.out.size)).mono HZW.out))
 clear hHeld HB3 HB5 HB6 HP3 HP5 HQ5 TX TY HW HV
 go_wp2
 go_ret
 exact ⟨rfl, HF.out⟩
def opCells (o : Opn) : List Value := [.int .u8 (o.k : Int), .int .u64 (o.a : Int), .int .u64 (o.b : Int), strV o.n]
theorem opCells_len (l : List Opn) : (l.flatMap opCells).length = l.length * 4 := by
 induction l with
 | nil => rfl
 | cons t l ih => rw [List.flatMap_cons, List.length_append, ih]; simp [opCells]; omega
theorem opCells_get : ∀ (l : List Opn) (k j : Nat) (t : Opn), l[k]? = some t → j < 4 → (l.flatMap opCells)[k * 4 + j]? = (opCells t)[j]?
 | t0 :: l, 0, j, t, h, hj => by
   simp only [List.getElem?_cons_zero, Option.some.injEq] at h
   subst h
   rw [List.flatMap_cons, List.getElem?_append_left (by simp [opCells]; omega)]
   simp
 | t0 :: l, k + 1, j, t, h, hj => by
   simp only [List.getElem?_cons_succ] at h
   rw [List.flatMap_cons, List.getElem?_append_right (by simp [opCells]; omega), ← opCells_get l k j t h hj]
   congr 1
   simp [opCells]; omega
 | [], k, j, t, h, hj => by simp at h
theorem Sl.opAt {w : World} {B n c : Nat} {a : Option Addr} {l : List Opn} (h : Sl w B (.slice a n c) l.length (l.flatMap opCells)) {k : Nat} {t : Opn} (ht : l[k]? = some t) :
 ∃ b o, a = some ⟨b, o, none⟩ ∧ b < B ∧ w.cell? ⟨b, o + k * 4, none⟩ = some (.int .u8 (t.k : Int)) ∧ w.cell? ⟨b, o + k * 4 + 1, none⟩ = some (.int .u64 (t.a : Int)) ∧ w.cell? ⟨b, o + k * 4 + 2, none⟩ = some (.int .u64 (t.b : Int)) ∧ w.cell? ⟨b, o + k * 4 + 3, none⟩ = some (strV t.n) := by
 obtain ⟨a', c', hv, hc⟩ := h
 injection hv with h1 h2 h3
 subst h1
 have hk : k < l.length := (List.getElem?_eq_some_iff.1 ht).1
 obtain ⟨b, o, ha, hb, hx⟩ := hc (by rw [opCells_len]; omega)
 have cell : ∀ j u, j < 4 → (opCells t)[j]? = some u → w.cell? ⟨b, o + (k * 4 + j), none⟩ = some u := by
  intro j u hj hu
  have h1 := opCells_get l k j t ht hj
  rw [hu] at h1
  obtain ⟨hlt, he⟩ := List.getElem?_eq_some_iff.1 h1
  rw [hx _ hlt, he]
 exact ⟨b, o, ha, hb, cell 0 _ (by omega) rfl, cell 1 _ (by omega) rfl, cell 2 _ (by omega) rfl, cell 3 _ (by omega) rfl⟩
set_option maxHeartbeats 8000000 in
set_option maxRecDepth 100000 in
theorem apart_any (av lv mv : Value) (l m : List Opn) (f : Opn → Opn → Bool) (w : World) (hl : Sl w w.heap.size lv l.length (l.flatMap opCells)) (hm : Sl w w.heap.size mv m.length (m.flatMap opCells)) (hll : l.length ≤ 1000000) (hml : m.length ≤ 1000000)
 (hc : ∀ x ∈ l, ∀ y ∈ m, ∀ W, Below w.heap.size w W → Calls Tryz.prog 13 #[av, x.v, y.v] W fun e w' => e = .returned (.bool (f x y)) ∧ Below W.heap.size W w') :
 Calls Tryz.prog 14 #[av, lv, mv] w fun e w' => e = .returned (.bool (l.all fun x => m.all fun y => f x y)) ∧ Below w.heap.size w w' := by
 have HLS := Lib.hid hl
 have HMS := Lib.hid hm
 have HC := Lib.hid hc
 obtain ⟨a1, c1, rfl⟩ := hl.form
 obtain ⟨a2, c2, rfl⟩ := hm.form
 clear hl hm hc
 go_enter Tryz.func14, Tryz.ntmps14
 go_wp2
 go_loopw [13] (fun p wr => ∃ i : Nat, p = .int .i64 (i : Int) ∧ i ≤ l.length ∧ Below w.heap.size w wr ∧ ∀ x ∈ l.take i, ∀ y ∈ m, f x y = true) (fun p wr => l.length - (intOf p).toNat)
 case atStart => exact ⟨0, rfl, Nat.zero_le _, Below.refl _ _, fun x hx => by simp at hx⟩
 case round =>
  obtain ⟨i, rfl, hi, hb, hA⟩ := hrel
  have HA := Lib.hid hA
  have HB := Lib.hid hb
  clear hA
  by_cases hlt : i < l.length
  ·
   obtain ⟨x, hx⟩ : ∃ x, l[i]? = some x := ⟨_, List.getElem?_eq_getElem hlt⟩
   have hfx := (HLS.out.below hb (Nat.le_refl _)).opAt hx
   obtain ⟨b1, o1, rfl, hbl, k0, k1, k2, k3⟩ := hfx
   have HX := Lib.hid hx
   have hbA : Below wr.heap.size wr (wr.alloc (.cells #[.int .u8 (x.k : Int), .int .u64 (x.a : Int), .int .u64 (x.b : Int), strV x.n] 43)) := (Below.refl _ _).alloc (Nat.le_refl _) _
   have hhA := heap_alloc_new wr (.cells #[.int .u8 (x.k : Int), .int .u64 (x.a : Int), .int .u64 (x.b : Int), strV x.n] 43)
   have HBA := Lib.hid (HB.out.trans (hbA.mono HB.out.size))
   have HHA := Lib.hid hhA
   clear hx hb hbA hhA
   have hxm : x ∈ l := List.mem_of_getElem? HX.out
   go_wp2
   generalize wr.heap.size = xb at HHA ⊢
   go_loopw [19] (fun p wi => ∃ j : Nat, p = .int .i64 (j : Int) ∧ j ≤ m.length ∧ Below w.heap.size w wi ∧ wi.heap[xb]? = some (.cells #[.int .u8 (x.k : Int), .int .u64 (x.a : Int), .int .u64 (x.b : Int), strV x.n] 43 (0, 0)) ∧ ∀ y ∈ m.take j, f x y = true) (fun p wi => m.length - (intOf p).toNat)
   case atStart => exact ⟨0, rfl, Nat.zero_le _, HBA.out, HHA.out, fun y hy => by simp at hy⟩
   case round =>
    obtain ⟨j, rfl, hj, hb, hh, hA2⟩ := hrel
    have HA2 := Lib.hid hA2
    have HB2 := Lib.hid hb
    have HH2 := Lib.hid hh
    clear HBA HHA hA2
    have hxl : xb < wr.heap.size := (Array.getElem?_eq_some_iff.1 hh).1
    have kx := fun i => cell_of_row wr xb i _ _ (0, 0) hh
    have x0 := kx 0; have x1 := kx 1; have x2 := kx 2; have x3 := kx 3
    simp at x0 x1 x2 x3
    by_cases hltj : j < m.length
    ·
     obtain ⟨y, hy⟩ : ∃ y, m[j]? = some y := ⟨_, List.getElem?_eq_getElem hltj⟩
     obtain ⟨b2, o2, rfl, hbl2, y0, y1, y2, y3⟩ := (HMS.out.below hb (Nat.le_refl _)).opAt hy
     have HY := Lib.hid hy
     have hym : y ∈ m := List.mem_of_getElem? hy
     have hbB : Below wr.heap.size wr (wr.alloc (.cells #[.int .u8 (y.k : Int), .int .u64 (y.a : Int), .int .u64 (y.b : Int), strV y.n] 43)) := (Below.refl _ _).alloc (Nat.le_refl _) _
     have TC := HC.out x hxm y hym _ (HB2.out.trans (hbB.mono HB2.out.size))
     have HBB := Lib.hid (HB2.out.trans (hbB.mono HB2.out.size))
     have HHB := Lib.hid ((hbB.block xb hxl).trans hh)
     have HZB := Lib.hid hbB.size
     cases hf : f x y with
     | false =>
       rw [hf] at TC
       have TC := Lib.hid TC
       have HF := Lib.hid hf
       clear hf hb hh hbB hy kx hym
       go_wp2_with fail
       refine TC.out.mono ?_
       rintro e w5 ⟨rfl, hb5⟩
       have HB5 := Lib.hid (HBB.out.trans (hb5.mono HBB.out.size))
       clear TC hb5
       go_wp2
       go_ret
       refine ⟨?_, HB5.out⟩
       have : (l.all fun x => m.all fun y => f x y) = false := by
        rw [List.all_eq_false]
        exact ⟨x, List.mem_of_getElem? HX.out, by
         rw [Bool.not_eq_true, List.all_eq_false]
         exact ⟨y, List.mem_of_getElem? HY.out, by rw [HF.out]; simp⟩⟩
       rw [this]
       rfl
     | true =>
       rw [hf] at TC
       have TC := Lib.hid TC
       have HF := Lib.hid hf
       clear hf hb hh hbB hy kx hym
       go_wp2_with fail
       refine TC.out.mono ?_
       rintro e w5 ⟨rfl, hb5⟩
       have HB5 := Lib.hid (HBB.out.trans (hb5.mono HBB.out.size))
       have HH5 := Lib.hid ((hb5.block xb (by have := HZB.out; omega)).trans HHB.out)
       clear TC hb5
       go_wp2
       go_roundw
       case rel => exact ⟨j + 1, by go_num, by omega, HB5.out, HH5.out, fun z hz => by
        rw [take_one HY.out, List.mem_append] at hz
        rcases hz with hz | hz
        ·
         exact HA2.out z hz
        ·
         simp at hz; rw [hz]; exact HF.out⟩
       case measure => simp [intOf]; omega
    ·
     obtain rfl : j = m.length := by omega
     clear hb hh kx x0 x1 x2 x3
     go_wp2
     go_roundw
     case rel => exact ⟨i + 1, by go_num, by omega, HB2.out, fun z hz y hy => by
      rw [take_one HX.out, List.mem_append] at hz
      rcases hz with hz | hz
      ·
       exact HA.out z hz y hy
      ·
       simp at hz; rw [hz]; exact HA2.out y (by rw [List.take_length]; exact hy)⟩
     case measure => simp [intOf]; omega
  ·
   obtain rfl : i = l.length := by omega
   clear hb
   go_wp2
   go_ret
   refine ⟨?_, HB.out⟩
   have : (l.all fun x => m.all fun y => f x y) = true := by
    rw [List.all_eq_true]
    intro x hx
    rw [List.all_eq_true]
    intro y hy
    exact HA.out x (by rw [List.take_length]; exact hx) y hy
   rw [this]
   rfl
end Go.Proofs.YtihmbbkppkgcmaaGreatDoor
namespace Go.Proofs.YtihmbbkppkgcmaaGreatDoor
open Go.RowKit
def tabM (rows : List Hg.Row) : ArM := fun i => if i = 0 then none else (rows[i - 1]?).map (·.node)
theorem tabM_at {rows : List Hg.Row} {k : Nat} {r : Hg.Row} (h : rows[k]? = some r) : tabM rows (k + 1) = some r.node := by
 unfold tabM
 rw [if_neg (by omega), Nat.add_sub_cancel, h]
 rfl
theorem tabM_some {rows : List Hg.Row} {i : Nat} {nd : Hg.Node} (h : tabM rows i = some nd) : ∃ k r, i = k + 1 ∧ rows[k]? = some r ∧ nd = r.node := by
 unfold tabM at h
 by_cases e : i = 0
 ·
  rw [if_pos e] at h; cases h
 ·
  rw [if_neg e] at h
  cases hr : rows[i - 1]? with
  | none => rw [hr] at h; cases h
  | some r =>
    rw [hr] at h
    injection h with h
    exact ⟨i - 1, r, by omega, hr, h.symm⟩
structure TrW (rows : List Hg.Row) : Prop where
 rid : ∀ (k : Nat) (r : Hg.Row), rows[k]? = some r → r.id = k + 1
 up : ∀ (k : Nat) (r : Hg.Row), rows[k]? = some r → ∀ c ∈ r.node.kids, k + 1 < c
 len : rows.length ≤ 1000000
 kinds : ∀ (k : Nat) (r : Hg.Row), rows[k]? = some r → r.node.kind ≤ 255
theorem parentOf_spec : ∀ (rows : List Hg.Row) (id : Nat), (Hg.parentOf rows id = (0, 0) ∧ ∀ r ∈ rows, idxI r.node.kids id < 0) ∨
 ∃ k r m, rows[k]? = some r ∧ Hg.parentOf rows id = (r.id, m) ∧ idxI r.node.kids id = (m : Int) ∧ ∀ (j : Nat) (r' : Hg.Row), j < k → rows[j]? = some r' → idxI r'.node.kids id < 0
 | [], id => .inl ⟨rfl, fun r h => by simp at h⟩
 | r :: rs, id => by
   cases hf : r.node.kids.findIdx? (· == id) with
   | some m =>
     exact .inr ⟨0, r, m, rfl, by simp [Hg.parentOf, hf], by simp [idxI, hf], fun j r' h => by omega⟩
   | none =>
     have hi : idxI r.node.kids id < 0 := by simp [idxI, hf]
     have hp : Hg.parentOf (r :: rs) id = Hg.parentOf rs id := by simp [Hg.parentOf, hf]
     rcases parentOf_spec rs id with ⟨h1, h2⟩ | ⟨k, r0, m, h1, h2, h3, h4⟩
     ·
      refine .inl ⟨hp.trans h1, fun x hx => ?_⟩
      rcases List.mem_cons.1 hx with hx | hx
      ·
       rw [hx]; exact hi
      ·
       exact h2 x hx
     ·
      refine .inr ⟨k + 1, r0, m, by simpa using h1, hp.trans h2, h3, fun j r' hj hr' => ?_⟩
      cases j with
      | zero => simp at hr'; rw [← hr']; exact hi
      | succ j => exact h4 j r' (by omega) (by simpa using hr')
theorem parin_tab {rows : List Hg.Row} (h : TrW rows) (id : Nat) : ParIn (tabM rows) id (fun i => i < idTop) (Hg.parentOf rows id).1 ((Hg.parentOf rows id).2 : Int) := by
 rcases parentOf_spec rows id with ⟨h1, h2⟩ | ⟨k, r, m, h1, h2, h3, h4⟩
 ·
  rw [h1]
  refine .inl ⟨rfl, rfl, fun i nd _ hM => ?_⟩
  obtain ⟨k, r, _, hr, rfl⟩ := tabM_some hM
  exact h2 r (List.mem_of_getElem? hr)
 ·
  rw [h2]
  have hid := h.rid k r h1
  have hkl : k < rows.length := (List.getElem?_eq_some_iff.1 h1).1
  have hl := h.len
  refine .inr ⟨by show r.id ≠ 0; omega, by show r.id < idTop; unfold idTop; omega, ⟨r.node, by show tabM rows r.id = _; rw [hid]; exact tabM_at h1, h3, by omega⟩, fun i nd _ hM hx => ?_⟩
  obtain ⟨j, r', rfl, hr', rfl⟩ := tabM_some hM
  show r.id ≤ j + 1
  by_cases hj : j < k
  ·
   have := h4 j r' hj hr'; omega
  ·
   omega
theorem idxI_in {l : List Nat} {id : Nat} (h : 0 ≤ idxI l id) : id ∈ l := by
 have := idxI_mem l id
 simpa [h] using this.symm
theorem arok_tab {rows : List Hg.Row} (h : TrW rows) : ArOk (tabM rows) := by
 refine ⟨rfl, fun i n hM => ?_, fun i n p k hM hp => ?_⟩
 ·
  obtain ⟨k, r, _, hr, rfl⟩ := tabM_some hM
  exact h.kinds k r hr
 ·
  rcases hp with ⟨h1, _⟩ | ⟨h1, _, ⟨nd, h2, h3, h4⟩, _⟩
  ·
   exact .inr h1
  ·
   obtain ⟨j, r, rfl, hr, rfl⟩ := tabM_some h2
   exact .inl (h.up j r hr i (idxI_in (by omega)))
theorem Tr.weak {rows : List Hg.Row} (h : Hg.Tr rows) (hl : rows.length ≤ 1000000) (hk : ∀ (k : Nat) (r : Hg.Row), rows[k]? = some r → r.node.kind ≤ 255) : TrW rows :=
 ⟨h.rid, fun k r hr c hc => (h.up k r hr c hc).1, hl, hk⟩
theorem parent_step {rows : List Hg.Row} (h : Hg.Tr rows) {k : Nat} {r : Hg.Row} (hr : rows[k]? = some r) (h3 : 4 ≤ r.node.kind) : ∃ p r' m, Hg.parentOf rows (k + 1) = (p + 1, m) ∧ rows[p]? = some r' ∧ p < k ∧ 3 ≤ r'.node.kind := by
 have hk : k ≠ 0 := by
  intro e
  subst e
  have := h.root r hr
  omega
 have hkl : k < rows.length := (List.getElem?_eq_some_iff.1 hr).1
 have hin : k + 1 ∈ rows.flatMap (fun r => r.node.kids) := by
  rw [h.perm.mem_iff, List.mem_range'_1]
  omega
 rw [List.mem_flatMap] at hin
 obtain ⟨x, hx, hxk⟩ := hin
 rcases parentOf_spec rows (k + 1) with ⟨_, h2⟩ | ⟨p, r', m, h1, h2, h4, _⟩
 ·
  have := h2 x hx
  have h5 := idxI_mem x.node.kids (k + 1)
  have h6 : decide (0 ≤ idxI x.node.kids (k + 1)) = true := by rw [h5]; simpa using hxk
  have h7 : 0 ≤ idxI x.node.kids (k + 1) := by simpa using h6
  omega
 ·
  have hc : k + 1 ∈ r'.node.kids := idxI_in (by omega)
  have hu := (h.up p r' h1 _ hc).1
  have hrel := h.kind p r' h1 _ hc r (by simpa using hr)
  have hid := h.rid p r' h1
  refine ⟨p, r', m, by rw [h2, hid], h1, by omega, ?_⟩
  unfold Hg.kRel at hrel
  omega
end Go.Proofs.YtihmbbkppkgcmaaGreatDoor
namespace Go.Proofs.YtihmbbkppkgcmaaGreatDoor
open Go.RowKit
def awS : List UInt8 := [109, 111, 100, 117, 108, 101, 32, 109, 32, 123, 32, 102, 117, 110, 99, 32, 102, 40, 41, 32, 105, 110, 116, 32, 123, 32, 114, 101, 116, 117, 114, 110, 32, 49, 59, 32, 125, 32, 102, 117, 110, 99, 32, 103, 40, 41, 32, 105, 110, 116, 32, 123, 32, 114, 101, 116, 117, 114, 110, 32, 49, 59, 32, 125, 32, 125, 32, 109, 111, 100, 117, 108, 101, 32, 109, 97, 105, 110, 32, 123, 32, 102, 117, 110, 99, 32, 109, 97, 105, 110, 40, 41, 32, 105, 110, 116, 32, 123, 32, 114, 101, 116, 117, 114, 110, 32, 49, 59, 32, 125, 32, 125]
def awL : List Hg.Tok := (Hg.r8all awS).getD []
def awMs : Mods := [([109], [([102], 1), ([103], 1)]), ([109, 97, 105, 110], [([109, 97, 105, 110], 1)])]
def funcB (L : List Hg.Tok) (k : Nat) (name : List UInt8) (n : Nat) : Bool :=
 decide (k + 10 ≤ L.length) && (tkIs L k Hg.wFunc && (decide ((tkAt L (k + 1)).kind = 1) && (((tkAt L (k + 1)).text == name) && (tkIs L (k + 2) [40] && (tkIs L (k + 3) [41] && (tkIs L (k + 4) Hg.wInt && (tkIs L (k + 5) [123] && (tkIs L (k + 6) Hg.wReturn && (decide ((tkAt L (k + 7)).kind = 2) && (decide (n < 10) && (((tkAt L (k + 7)).text == [UInt8.ofNat (48 + n)]) && (tkIs L (k + 8) [59] && tkIs L (k + 9) [125]))))))))))))
theorem funcB_ok {L : List Hg.Tok} {k : Nat} {name : List UInt8} {n : Nat} (h : funcB L k name n = true) : FuncAt L k name n := by
 simp only [funcB, Bool.and_eq_true, decide_eq_true_eq, beq_iff_eq] at h
 obtain ⟨h1, h2, h3, h4, h5, h6, h7, h8, h9, h10, h11, h12, h13, h14⟩ := h
 exact ⟨h1, h2, h3, h4, h5, h6, h7, h8, h9, h10, h11, h12, h13, h14⟩
theorem aw_some : (Hg.r8all awS).isSome = true := by decide +kernel
theorem aw_all : Hg.r8all awS = some awL := by
 unfold awL
 have h := aw_some
 cases hr : Hg.r8all awS with
 | none => rw [hr] at h; cases h
 | some l => rfl
theorem aw_num : (awL.all fun t => decide (t.kind ≠ 2) || (t.text == [49])) = true := by decide +kernel
theorem aw_numok : NumOk awL := by
 intro t ht hk
 have h := List.all_eq_true.1 aw_num t ht
 simp only [Bool.or_eq_true, decide_eq_true_eq, beq_iff_eq] at h
 rcases h with h | h
 ·
  exact absurd hk h
 ·
  exact ⟨1, by omega, h⟩
theorem aw_len : awL.length = 38 := by decide +kernel
theorem aw_f1 : funcB awL 3 [102] 1 = true := by decide +kernel
theorem aw_f2 : funcB awL 13 [103] 1 = true := by decide +kernel
theorem aw_f3 : funcB awL 27 [109, 97, 105, 110] 1 = true := by decide +kernel
theorem aw_m1 : (tkIs awL 0 Hg.wModule && (decide ((tkAt awL 1).kind = 1) && (((tkAt awL 1).text == [109]) && (tkIs awL 2 [123] && tkIs awL 23 [125])))) = true := by decide +kernel
theorem aw_m2 : (tkIs awL 24 Hg.wModule && (decide ((tkAt awL 25).kind = 1) && (((tkAt awL 25).text == [109, 97, 105, 110]) && (tkIs awL 26 [123] && tkIs awL 37 [125])))) = true := by decide +kernel
theorem aw_prog : ProgAt awL awMs := by
 have h1 := aw_m1
 have h2 := aw_m2
 simp only [Bool.and_eq_true, decide_eq_true_eq, beq_iff_eq] at h1 h2
 obtain ⟨a1, a2, a3, a4, a5⟩ := h1
 obtain ⟨b1, b2, b3, b4, b5⟩ := h2
 refine ⟨fun i hi => ?_, by rw [aw_len]; rfl⟩
 match i, hi with
 | 0, _ =>
   refine ⟨by rw [aw_len]; show (24 : Nat) ≤ 38; decide, a1, a2, a3, a4, fun j hj => ?_, a5⟩
   match j, hj with
   | 0, _ => exact funcB_ok aw_f1
   | 1, _ => exact funcB_ok aw_f2
 | 1, _ =>
   refine ⟨by rw [aw_len]; show (38 : Nat) ≤ 38; decide, b1, b2, b3, b4, fun j hj => ?_, b5⟩
   match j, hj with
   | 0, _ => exact funcB_ok aw_f3
def fnT (a b c d : Nat) (name : List UInt8) : GT := .mk a ⟨3, name, 0, 1, 0, []⟩ [.mk b (Hg.Rd.nd 5) [.mk c (Hg.Rd.nd 10) [.mk d (numNode 1) []]]]
theorem GT.eta (t : GT) : t = .mk t.b t.nd t.ks := by cases t; rfl
theorem fn_tree {name : List UInt8} {t : GT} (h : FuncSh name 1 t) : ∃ a b c d, t = fnT a b c d name := by
 obtain ⟨h1, b0, r, i, h2, h3, h4, h5, h6, h7, h8⟩ := h
 refine ⟨t.b, b0.b, r.b, i.b, ?_⟩
 rw [GT.eta t, h1, h2, GT.eta b0, h3, h4, GT.eta r, h5, h6, GT.eta i, h7, h8]
 rfl
theorem All2.one {α β : Type} {R : α → β → Prop} {a : α} {l : List β} (h : All2 R [a] l) : ∃ x, l = [x] ∧ R a x := by
 obtain ⟨h1, h2⟩ := h
 match l, h1 with
 | [x], _ => exact ⟨x, rfl, h2 0 a x rfl rfl⟩
theorem All2.two {α β : Type} {R : α → β → Prop} {a b : α} {l : List β} (h : All2 R [a, b] l) : ∃ x y, l = [x, y] ∧ R a x ∧ R b y := by
 obtain ⟨h1, h2⟩ := h
 match l, h1 with
 | [x, y], _ => exact ⟨x, y, rfl, h2 0 a x rfl rfl, h2 1 b y rfl rfl⟩
def awT (b0 b1 b2 b3 b4 b5 b6 b7 b8 b9 b10 b11 b12 b13 b14 : Nat) : GT := .mk b0 (Hg.Rd.nd 1) [.mk b1 ⟨2, [109], 0, 0, 0, []⟩ [fnT b2 b3 b4 b5 [102], fnT b6 b7 b8 b9 [103]], .mk b10 ⟨2, [109, 97, 105, 110], 0, 0, 0, []⟩ [fnT b11 b12 b13 b14 [109, 97, 105, 110]]]
theorem aw_tree {t : GT} (h : ProgSh awMs t) : ∃ b0 b1 b2 b3 b4 b5 b6 b7 b8 b9 b10 b11 b12 b13 b14, t = awT b0 b1 b2 b3 b4 b5 b6 b7 b8 b9 b10 b11 b12 b13 b14 := by
 obtain ⟨h1, h2⟩ := h
 obtain ⟨m1, m2, h3, ⟨h4, h5⟩, ⟨h6, h7⟩⟩ := All2.two h2
 obtain ⟨f1, f2, h8, h9, h10⟩ := All2.two h5
 obtain ⟨f3, h11, h12⟩ := All2.one h7
 obtain ⟨b2, b3, b4, b5, rfl⟩ := fn_tree h9
 obtain ⟨b6, b7, b8, b9, rfl⟩ := fn_tree h10
 obtain ⟨b11, b12, b13, b14, rfl⟩ := fn_tree h12
 refine ⟨t.b, m1.b, b2, b3, b4, b5, b6, b7, b8, b9, m2.b, b11, b12, b13, b14, ?_⟩
 rw [GT.eta t, h1, h3, GT.eta m1, h4, h8, GT.eta m2, h6, h11]
 rfl
theorem aw_blocks (b0 b1 b2 b3 b4 b5 b6 b7 b8 b9 b10 b11 b12 b13 b14 : Nat) : (awT b0 b1 b2 b3 b4 b5 b6 b7 b8 b9 b10 b11 b12 b13 b14).blocks = [b0, b1, b2, b3, b4, b5, b6, b7, b8, b9, b10, b11, b12, b13, b14] := rfl
theorem aw_names : ∀ t, ProgSh awMs t → NamesOk [] t := by
 intro t h
 obtain ⟨b0, b1, b2, b3, b4, b5, b6, b7, b8, b9, b10, b11, b12, b13, b14, rfl⟩ := aw_tree h
 refine ⟨by rw [← GT.blocks_len, aw_blocks]; show (15 : Nat) ≤ 1000; decide, ?_, ?_, ?_, ?_⟩
 ·
  intro i j x y hx hy e
  match i, j, hx, hy with
  | 0, 0, _, _ => rfl
  | 1, 1, _, _ => rfl
  | 0, 1, hx, hy => injection hx with hx; injection hy with hy; subst hx; subst hy; exact absurd (show ([109] : List UInt8) = [109, 97, 105, 110] from e) (by decide)
  | 1, 0, hx, hy => injection hx with hx; injection hy with hy; subst hx; subst hy; exact absurd (show ([109, 97, 105, 110] : List UInt8) = [109] from e) (by decide)
  | i + 2, _, hx, _ => simp [awT, GT.ks] at hx
  | _, j + 2, _, hy => simp [awT, GT.ks] at hy
 ·
  intro m hm
  simp only [awT, GT.ks, List.mem_cons, List.not_mem_nil, or_false] at hm
  rcases hm with rfl | rfl
  ·
   intro i j x y hx hy e
   match i, j, hx, hy with
   | 0, 0, _, _ => rfl
   | 1, 1, _, _ => rfl
   | 0, 1, hx, hy => injection hx with hx; injection hy with hy; subst hx; subst hy; exact absurd (show ([102] : List UInt8) = [103] from e) (by decide)
   | 1, 0, hx, hy => injection hx with hx; injection hy with hy; subst hx; subst hy; exact absurd (show ([103] : List UInt8) = [102] from e) (by decide)
   | i + 2, _, hx, _ => simp [GT.ks] at hx
   | _, j + 2, _, hy => simp [GT.ks] at hy
  ·
   intro i j x y hx hy e
   match i, j, hx, hy with
   | 0, 0, _, _ => rfl
   | i + 1, _, hx, _ => simp [GT.ks] at hx
   | _, j + 1, _, hy => simp [GT.ks] at hy
 ·
  intro s hs
  simp only [awT, fnT, GT.subs, GT.subsL, List.cons_append, List.nil_append, List.append_nil, List.mem_cons, List.not_mem_nil, or_false] at hs
  rcases hs with rfl | rfl | rfl | rfl | rfl | rfl | rfl | rfl | rfl | rfl | rfl | rfl | rfl | rfl | rfl
  all_goals simp [GT.nd, Hg.Rd.nd, numNode]
 ·
  intro m hm f hf s hs
  simp only [awT, GT.ks, List.mem_cons, List.not_mem_nil, or_false] at hm
  rcases hm with rfl | rfl
  all_goals
   simp only [GT.ks, List.mem_cons, List.not_mem_nil, or_false] at hf
  ·
   rcases hf with rfl | rfl
   all_goals
    simp only [fnT, GT.ks, GT.subs, GT.subsL, List.cons_append, List.nil_append, List.append_nil, List.mem_cons, List.not_mem_nil, or_false] at hs
    rcases hs with rfl | rfl | rfl
    all_goals simp [PlainK, GT.nd, Hg.Rd.nd, numNode]
  ·
   subst hf
   simp only [fnT, GT.ks, GT.subs, GT.subsL, List.cons_append, List.nil_append, List.append_nil, List.mem_cons, List.not_mem_nil, or_false] at hs
   rcases hs with rfl | rfl | rfl
   all_goals simp [PlainK, GT.nd, Hg.Rd.nd, numNode]
def awRows : List Hg.Row := [
 ⟨1, ⟨1, [], 0, 0, 0, [2, 11]⟩⟩,
 ⟨2, ⟨2, [109], 0, 0, 0, [3, 7]⟩⟩,
 ⟨3, ⟨3, [102], 0, 1, 0, [4]⟩⟩,
 ⟨4, ⟨5, [], 0, 0, 0, [5]⟩⟩,
 ⟨5, ⟨10, [], 0, 0, 0, [6]⟩⟩,
 ⟨6, ⟨13, [], 1, 0, 0, []⟩⟩,
 ⟨7, ⟨3, [103], 0, 1, 0, [8]⟩⟩,
 ⟨8, ⟨5, [], 0, 0, 0, [9]⟩⟩,
 ⟨9, ⟨10, [], 0, 0, 0, [10]⟩⟩,
 ⟨10, ⟨13, [], 1, 0, 0, []⟩⟩,
 ⟨11, ⟨2, [109, 97, 105, 110], 0, 0, 0, [12]⟩⟩,
 ⟨12, ⟨3, [109, 97, 105, 110], 0, 1, 0, [13]⟩⟩,
 ⟨13, ⟨5, [], 0, 0, 0, [14]⟩⟩,
 ⟨14, ⟨10, [], 0, 0, 0, [15]⟩⟩,
 ⟨15, ⟨13, [], 1, 0, 0, []⟩⟩]
theorem aw_arena {t : GT} (h : ProgSh awMs t) (hnd : t.blocks.Nodup) : layM (setN id0 1 t.blocks) t rootM = tabM awRows := by
 obtain ⟨b0, b1, b2, b3, b4, b5, b6, b7, b8, b9, b10, b11, b12, b13, b14, rfl⟩ := aw_tree h
 rw [aw_blocks] at hnd ⊢
 generalize hS : setN id0 1 [b0, b1, b2, b3, b4, b5, b6, b7, b8, b9, b10, b11, b12, b13, b14] = S
 have g := fun k b hk => setN_get [b0, b1, b2, b3, b4, b5, b6, b7, b8, b9, b10, b11, b12, b13, b14] id0 1 k b hnd hk
 rw [hS] at g
 have g0 : S b0 = 1 := g 0 b0 rfl
 have g1 : S b1 = 2 := g 1 b1 rfl
 have g2 : S b2 = 3 := g 2 b2 rfl
 have g3 : S b3 = 4 := g 3 b3 rfl
 have g4 : S b4 = 5 := g 4 b4 rfl
 have g5 : S b5 = 6 := g 5 b5 rfl
 have g6 : S b6 = 7 := g 6 b6 rfl
 have g7 : S b7 = 8 := g 7 b7 rfl
 have g8 : S b8 = 9 := g 8 b8 rfl
 have g9 : S b9 = 10 := g 9 b9 rfl
 have g10 : S b10 = 11 := g 10 b10 rfl
 have g11 : S b11 = 12 := g 11 b11 rfl
 have g12 : S b12 = 13 := g 12 b12 rfl
 have g13 : S b13 = 14 := g 13 b13 rfl
 have g14 : S b14 = 15 := g 14 b14 rfl
 clear g hS hnd h
 funext i
 simp only [awT, fnT, layM, layML, List.map_cons, List.map_nil, GT.b, g0, g1, g2, g3, g4, g5, g6, g7, g8, g9, g10, g11, g12, g13, g14]
 by_cases hi : i < 16
 ·
  have : i = 0 ∨ i = 1 ∨ i = 2 ∨ i = 3 ∨ i = 4 ∨ i = 5 ∨ i = 6 ∨ i = 7 ∨ i = 8 ∨ i = 9 ∨ i = 10 ∨ i = 11 ∨ i = 12 ∨ i = 13 ∨ i = 14 ∨ i = 15 := by omega
  rcases this with rfl | rfl | rfl | rfl | rfl | rfl | rfl | rfl | rfl | rfl | rfl | rfl | rfl | rfl | rfl | rfl
  all_goals rfl
 ·
  have h0 : tabM awRows i = none := by
   unfold tabM
   rw [if_neg (by omega), List.getElem?_eq_none (by show 15 ≤ i - 1; omega)]
   rfl
  rw [h0]
  simp only [putM, rootM]
  repeat rw [if_neg (by omega)]
theorem aw_trw : TrW awRows := by
 refine ⟨?_, ?_, by decide, ?_⟩
 all_goals
  intro k r hr
  have hk : k < 15 := (List.getElem?_eq_some_iff.1 hr).1
  have : k = 0 ∨ k = 1 ∨ k = 2 ∨ k = 3 ∨ k = 4 ∨ k = 5 ∨ k = 6 ∨ k = 7 ∨ k = 8 ∨ k = 9 ∨ k = 10 ∨ k = 11 ∨ k = 12 ∨ k = 13 ∨ k = 14 := by omega
  rcases this with rfl | rfl | rfl | rfl | rfl | rfl | rfl | rfl | rfl | rfl | rfl | rfl | rfl | rfl | rfl
  all_goals
   injection hr with hr
   subst hr
   decide
def opX : Opn := ⟨2, 3, 0, [112]⟩
def opY : Opn := ⟨2, 7, 0, [113]⟩
def opZ : Opn := ⟨2, 7, 0, [112]⟩
theorem aw_scope3 : ScopeIs (tabM awRows) 3 2 := .inl ⟨.inr rfl, ⟨_, parin_tab aw_trw 3⟩⟩
theorem aw_scope7 : ScopeIs (tabM awRows) 7 2 := .inl ⟨.inr rfl, ⟨_, parin_tab aw_trw 7⟩⟩
theorem aw_x : OfIs (tabM awRows) opX [3] [(2, [112]), (2, [102])] true :=
 .inl ⟨rfl, rfl, ⟨3, [102], 0, 1, 0, [4]⟩, 2, rfl, rfl, by decide, ⟨by decide, .inl ⟨by decide, by decide, by decide +kernel⟩⟩, rfl, aw_scope3, rfl⟩
theorem aw_y : OfIs (tabM awRows) opY [7] [(2, [113]), (2, [103])] true :=
 .inl ⟨rfl, rfl, ⟨3, [103], 0, 1, 0, [8]⟩, 2, rfl, rfl, by decide, ⟨by decide, .inl ⟨by decide, by decide, by decide +kernel⟩⟩, rfl, aw_scope7, rfl⟩
theorem aw_z : OfIs (tabM awRows) opZ [7] [(2, [112]), (2, [103])] true :=
 .inl ⟨rfl, rfl, ⟨3, [103], 0, 1, 0, [8]⟩, 2, rfl, rfl, by decide, ⟨by decide, .inl ⟨by decide, by decide, by decide +kernel⟩⟩, rfl, aw_scope7, rfl⟩
end Go.Proofs.YtihmbbkppkgcmaaGreatDoor
namespace Go.Proofs.YtihmbbkppkgcmaaGreatDoor
open Go.RowKit
set_option maxHeartbeats 8000000 in
set_option maxRecDepth 100000 in
theorem awake_any (w : World) (hT : TabOk w) : Calls Tryz.prog 6 #[] w fun e w' => e = .returned (.bool true) ∧ Below w.heap.size w w' := by
 have T1 := Lib.hid (gparse_any awS awL awMs w (by decide) aw_all aw_numok hT aw_prog (by rw [aw_len]; decide) aw_names)
 have HTAB := Lib.hid (show ∀ W, Below w.heap.size w W → TabOk W from fun W h => hT.below h hT.lt)
 clear hT
 go_enter Tryz.func6, Tryz.ntmps6
 go_wp2_with fail
 refine T1.out.mono ?_
 rintro e w1 ⟨t, ab, mb, c, hsh, hnd, rfl, hA, hb1⟩
 rw [aw_arena hsh hnd] at hA
 have HA1 := Lib.hid hA
 have HB1 := Lib.hid hb1
 clear T1 hA hb1 hsh hnd
 have TC := Lib.hid (fun W (h : Below w1.heap.size w1 W) => commute_any ab mb c _ opX opY _ _ _ _ _ _ W (HA1.out.below h (Nat.le_refl _)) (arok_tab aw_trw) ⟨by decide, by decide, by decide⟩ ⟨by decide, by decide, by decide⟩ (HTAB.out W (HB1.out.trans (h.mono HB1.out.size))) aw_x aw_y)
 have TD := Lib.hid (fun W (h : Below w1.heap.size w1 W) => commute_any ab mb c _ opX opZ _ _ _ _ _ _ W (HA1.out.below h (Nat.le_refl _)) (arok_tab aw_trw) ⟨by decide, by decide, by decide⟩ ⟨by decide, by decide, by decide⟩ (HTAB.out W (HB1.out.trans (h.mono HB1.out.size))) aw_x aw_z)
 have TS := Lib.hid (fun W (h : Below w1.heap.size w1 W) => scope_any ab mb c _ 3 2 W (HA1.out.below h (Nat.le_refl _)) (arok_tab aw_trw) (by decide) aw_scope3)
 go_wp2_with fail
 obtain ⟨h0, h1, h2, hb3, hz3⟩ := alloc3 w1 (.cells #[.int .u8 2, .int .u64 3, .int .u64 0, .string ⟨#[112]⟩] 43) (.cells #[.int .u8 2, .int .u64 7, .int .u64 0, .string ⟨#[113]⟩] 43) (.cells #[.int .u8 2, .int .u64 7, .int .u64 0, .string ⟨#[112]⟩] 43)
 refine (TC.out _ hb3).mono ?_
 generalize World.alloc (World.alloc (World.alloc w1 _) _) _ = W3 at h0 h1 h2 hb3 hz3 ⊢
 rintro e w5 ⟨rfl, hb5⟩
 have hd1 : (!meetsB [3] [7] [((2 : Nat), ([112] : List UInt8)), (2, [102])] [(2, [113]), (2, [103])] true true) = true := by decide
 rw [hd1]
 have g0 := (hb5.block w1.heap.size (by omega)).trans h0
 have g2 := (hb5.block (w1.heap.size + 2) (by omega)).trans h2
 have k0 := fun i => cell_of_row w5 w1.heap.size i _ _ (0, 0) g0
 have k2 := fun i => cell_of_row w5 (w1.heap.size + 1 + 1) i _ _ (0, 0) g2
 have x0 := k0 0; have x1 := k0 1; have x2 := k0 2; have x3 := k0 3
 have z0 := k2 0; have z1 := k2 1; have z2 := k2 2; have z3 := k2 3
 simp at x0 x1 x2 x3 z0 z1 z2 z3
 have HB5 := Lib.hid (hb3.trans (hb5.mono hb3.size))
 clear k0 k2 h0 h1 h2 hb3 hz3 hb5 hd1 g0 g2 TC
 go_wp2_with fail
 refine (TD.out _ HB5.out).mono ?_
 rintro e w6 ⟨rfl, hb6⟩
 have hd2 : (!meetsB [3] [7] [((2 : Nat), ([112] : List UInt8)), (2, [102])] [(2, [112]), (2, [103])] true true) = false := by decide
 rw [hd2]
 have HB6 := Lib.hid (HB5.out.trans (hb6.mono HB5.out.size))
 clear hd2 hb6 TD x0 x1 x2 x3 z0 z1 z2 z3
 go_wp2_with fail
 refine (TS.out _ HB6.out).mono ?_
 rintro e w7 ⟨rfl, hb7⟩
 have HB7 := Lib.hid (HB1.out.trans ((HB6.out.trans (hb7.mono HB6.out.size)).mono HB1.out.size))
 clear hb7 TS
 go_wp2
 go_ret
 exact ⟨rfl, HB7.out⟩
end Go.Proofs.YtihmbbkppkgcmaaGreatDoor
namespace Go.Proofs.YtihmbbkppkgcmaaGreatDoor
open Go.RowKit
def fallS : List UInt8 := [109, 111, 100, 117, 108, 101, 32, 109, 32, 123, 32, 102, 117, 110, 99, 32, 102, 40, 97, 32, 105, 110, 116, 41, 32, 105, 110, 116, 32, 123, 32, 114, 101, 116, 117, 114, 110, 32, 40, 97, 32, 43, 32, 49, 41, 59, 32, 125, 32, 102, 117, 110, 99, 32, 103, 40, 41, 32, 105, 110, 116, 32, 123, 32, 114, 101, 116, 117, 114, 110, 32, 50, 59, 32, 125, 32, 125, 32, 109, 111, 100, 117, 108, 101, 32, 109, 97, 105, 110, 32, 123, 32, 102, 117, 110, 99, 32, 109, 97, 105, 110, 40, 41, 32, 105, 110, 116, 32, 123, 32, 108, 101, 116, 32, 97, 32, 105, 110, 116, 32, 61, 32, 40, 49, 32, 43, 32, 50, 41, 59, 32, 112, 114, 105, 110, 116, 32, 40, 97, 32, 42, 32, 51, 41, 59, 32, 114, 101, 116, 117, 114, 110, 32, 97, 59, 32, 125, 32, 125]
def RowsOk (x : List Hg.Row) : Prop := ∃ s' : List UInt8, s'.length ≤ 600 ∧ x = (Hg.parseOf s').1 ∧ ((Hg.parseOf s').2 = 0 ∨ s' = fallS)
def arenaOf (x : List Hg.Row) : ArM := if x = [] then rootM else tabM x
def ProgRes (w : World) (e : Ending) (w' : World) : Prop :=
 ∃ ab mb c v x, RowsOk x ∧ e = .returned (.tuple #[.pointer (some ⟨ab, 0, none⟩), v]) ∧ RowsAt w' w'.heap.size v x ∧ ArAt w' ab mb c (arenaOf x) ∧ Below w.heap.size w w'
def arenaTo (x : List Hg.Row) (j : Nat) : ArM := if j = 0 then rootM else tabM (x.take j)
theorem putM_tab {x : List Hg.Row} {j : Nat} {r : Hg.Row} (h : x[j]? = some r) : putM (arenaTo x j) (j + 1) r.node = arenaTo x (j + 1) := by
 have hj : j < x.length := (List.getElem?_eq_some_iff.1 h).1
 funext i
 unfold arenaTo
 rw [if_neg (show ¬ j + 1 = 0 by omega)]
 unfold putM
 by_cases hi : i = j + 1
 ·
  rw [if_pos hi, hi]
  exact (tabM_at (by rw [List.getElem?_take_of_lt (by omega)]; exact h)).symm
 ·
  rw [if_neg hi]
  by_cases hj0 : j = 0
  ·
   subst hj0
   rw [if_pos rfl]
   unfold rootM putM tabM
   rw [if_neg (by omega)]
   by_cases h0 : i = 0
   ·
    rw [if_pos h0]
   ·
    rw [if_neg h0, List.getElem?_eq_none (by rw [List.length_take]; omega)]
    rfl
  ·
   rw [if_neg hj0]
   unfold tabM
   by_cases h0 : i = 0
   ·
    rw [if_pos h0, if_pos h0]
   ·
    rw [if_neg h0, if_neg h0]
    by_cases hlt : i - 1 < j
    ·
     rw [List.getElem?_take_of_lt hlt, List.getElem?_take_of_lt (by omega)]
    ·
     rw [List.getElem?_eq_none (by rw [List.length_take]; omega), List.getElem?_eq_none (by rw [List.length_take]; omega)]
theorem arenaTo_some (x : List Hg.Row) (j : Nat) : (arenaTo x j (j + 1)).isSome = decide (j = 0) := by
 unfold arenaTo
 by_cases hj : j = 0
 ·
  subst hj; rfl
 ·
  rw [if_neg hj]
  unfold tabM
  rw [if_neg (by omega), Nat.add_sub_cancel, List.getElem?_eq_none (by rw [List.length_take]; omega)]
  simp [hj]
theorem arenaTo_all (x : List Hg.Row) : arenaTo x x.length = arenaOf x := by
 unfold arenaTo arenaOf
 cases x with
 | nil => rfl
 | cons r x => rw [if_neg (by simp), if_neg (by simp), List.take_length]
theorem RowsOk.facts {x : List Hg.Row} (h : RowsOk x) : (x = [] ∨ Hg.Tr x) ∧ x.length ≤ 20000 ∧ (∀ r ∈ x, r.node.kind ≤ 20) ∧ ∀ (k : Nat) (r : Hg.Row), x[k]? = some r → r.node.kids.length ≤ 1000000 := by
 obtain ⟨s', hl, rfl, _⟩ := h
 have h1 := Hg.parse_tr s'
 refine ⟨h1.1, h1.2, fun r hr => (Hg.parse_nb s' r hr).1, fun k r hr => ?_⟩
 rcases h1.1 with e | ht
 ·
  rw [e] at hr; simp at hr
 ·
  have := ht.kids r (List.mem_of_getElem? hr)
  have := h1.2
  omega
set_option maxHeartbeats 8000000 in
set_option maxRecDepth 100000 in
theorem program_any (s : List UInt8) (w : World) (hs : s.length ≤ 1000000000000000) : Calls Tryz.prog 7 #[.string ⟨s.toArray⟩] w (ProgRes w) := by
 have TT := Lib.hid (text1_any s 600 hs (by omega) w)
 have hl6 : (s.take 600).length ≤ 600 := by simp; omega
 have TP := Lib.hid (parse9_any (s.take 600) (by omega) w)
 have TR := Lib.hid (fun B v W hB hx => right11_any (s.take 600) (by omega) B v W hB hx)
 generalize hs6 : s.take 600 = s6 at TT TP TR hl6
 have TF := Lib.hid (fun W => parse9_any fallS (by decide) W)
 clear hs hs6
 go_enter Tryz.func7, Tryz.ntmps7
 go_wp2_with fail
 refine TT.out.mono ?_
 rintro e w0 ⟨rfl, rfl⟩
 go_wp2_with fail
 refine TP.out.mono ?_
 rintro e w1 ⟨⟨v, rfl, hx1⟩, hb1⟩
 obtain ⟨a1, c1, rfl⟩ := hx1.form
 have HX1 := Lib.hid hx1
 have HB1 := Lib.hid hb1
 clear TT TP hx1 hb1
 go_upto_region 2 with fail
 go_cut [21] from 15 (fun b wx => ∃ bb, b = .bool bb ∧ (bb = false → (Hg.parseOf s6).2 = 0) ∧ Below w1.heap.size w1 wx)
 case first =>
  by_cases he : (Hg.parseOf s6).2 = 0
  ·
   obtain ⟨r, _, TRR⟩ := TR.out w1.heap.size _ w1 (Nat.le_refl _) HX1.out
   have HE := Lib.hid he
   have q1 : (((Hg.parseOf s6).2 : Int) != 0) = false := by simp [he]
   have TRR := Lib.hid TRR
   clear he
   go_wp2_with fail
   refine TRR.out.mono ?_
   rintro e w2 ⟨rfl, hb2⟩
   have HB2 := Lib.hid hb2
   clear hb2 TRR
   go_wp2
   go_meet
   case rel => exact ⟨_, rfl, (fun _ => HE.out), HB2.out⟩
  ·
   have q1 : (((Hg.parseOf s6).2 : Int) != 0) = true := by simpa using he
   clear he
   go_wp2
   go_meet
   case rel => exact ⟨true, rfl, (fun h => by cases h), Below.refl _ _⟩
 case rest =>
  obtain ⟨bb, rfl, hbb, hb⟩ := hcut
  have HBB := Lib.hid hbb
  have HB2 := Lib.hid hb
  clear hbb hb
  go_upto_if 21 with fail
  go_cut [4] from 22 (fun v4 wx => ∃ x, RowsOk x ∧ RowsAt wx wx.heap.size v4 x ∧ Below w1.heap.size w1 wx)
  case first =>
   cases bb with
   | true =>
     go_wp2_with fail
     refine (TF.out wc).mono ?_
     rintro e w3 ⟨⟨v3, rfl, hx3⟩, hb3⟩
     have HX3 := Lib.hid hx3
     have HB3 := Lib.hid (HB2.out.trans (hb3.mono HB2.out.size))
     clear hx3 hb3
     go_wp2
     go_meet
     case rel => exact ⟨_, ⟨fallS, by decide, rfl, .inr rfl⟩, HX3.out, HB3.out⟩
   | false =>
     have HX3 := Lib.hid ((HX1.out.below HB2.out (Nat.le_refl _)).more HB2.out.size)
     go_wp2
     go_meet
     case rel => exact ⟨_, ⟨s6, hl6, rfl, .inl (HBB.out (by trivial))⟩, HX3.out, HB2.out⟩
  case rest =>
   obtain ⟨x, hxo, hx4, hb4⟩ := hcut
   have HXO := Lib.hid hxo
   have HX4 := Lib.hid hx4
   have HB4 := Lib.hid (HB1.out.trans (hb4.mono HB1.out.size))
   obtain ⟨a4, c4, rfl⟩ := hx4.form
   clear hxo hx4 hb4
   have TN := Lib.hid (fun W => new_any (fun _ => True) W)
   have hfx := HXO.out.facts
   have HFX := Lib.hid hfx
   have hxl : x.length ≤ 20000 := hfx.2.1
   clear hfx
   go_wp2_with fail
   refine (TN.out wc).mono ?_
   rintro e w5 ⟨ab, mb, rfl, hab, hmb, hA5, hb5⟩
   have HA5 := Lib.hid hA5
   have HB5 := Lib.hid hb5
   clear hA5 hb5 TN
   go_wp2
   go_loopw [29] (fun p wr => ∃ (j cj : Nat), p = .int .i64 (j : Int) ∧ j ≤ x.length ∧ ArAt wr ab mb cj (arenaTo x j) ∧ cj ≤ j + 1 ∧ (0 < j → cj ≤ j) ∧ Below wc.heap.size wc wr) (fun p wr => x.length - (intOf p).toNat)
   case atStart => exact ⟨0, 1, rfl, Nat.zero_le _, HA5.out, by omega, fun h => by omega, HB5.out⟩
   case round =>
    obtain ⟨j, cj, rfl, hj, hA, hc1, hc2, hb⟩ := hrel
    have HA := Lib.hid hA
    have HB := Lib.hid hb
    have HC := Lib.hid (And.intro hc1 hc2)
    clear hA hc1 hc2 HA5 HB5
    by_cases hlt : j < x.length
    ·
     obtain ⟨r, hr⟩ : ∃ r, x[j]? = some r := ⟨_, List.getElem?_eq_getElem hlt⟩
     obtain ⟨b, o, ka, kc, rfl, hbl, hks, r0, r1, r2, r3, r4, r5, r6⟩ := (HX4.out.below hb (Nat.le_refl _)).at_ hr
     have hid : r.id = j + 1 := by
      rcases HFX.out.1 with e | ht
      ·
       rw [e] at hr; simp at hr
      ·
       exact ht.rid j r hr
     have hkl := HFX.out.2.2.2 j r hr
     have hbN : Below wr.heap.size wr (wr.alloc (.cells #[.int .u64 (r.id : Int), .int .u8 (r.node.kind : Int), strV r.node.name, .int .i64 r.node.num, .int .u8 (r.node.type : Int), .int .u64 (r.node.ref : Int), .slice ka r.node.kids.length kc] 33)) := (Below.refl _ _).alloc (Nat.le_refl _) _
     have hiM : (arenaTo x j r.id).isSome = decide (j = 0) := by rw [hid]; exact arenaTo_some x j
     have TPU := put_any (fun _ => True) ab mb cj (arenaTo x j) r.id r.node ka kc _ (HA.out.below hbN (Nat.le_refl _)) (by unfold idTop; omega) (by omega) (by
      rw [hiM]
      by_cases e : j = 0
      ·
       exact .inl (by simp [e])
      ·
       exact .inr (by have := HC.out.2 (by omega); omega)) (by have := HC.out.1; omega) ((hks.more hb.size).below hbN (Nat.le_refl _) |>.more hbN.size) hkl
     have TPU := Lib.hid TPU
     have HR := Lib.hid (And.intro hr (And.intro hid hiM))
     have HBN := Lib.hid (HB.out.trans (hbN.mono HB.out.size))
     clear hr hid hiM hkl hb hbN hks
     go_wp2_with fail
     refine TPU.out.mono ?_
     rintro e w7 ⟨rfl, hA7, hg7⟩
     have HB7 := Lib.hid (show Below wc.heap.size wc w7 from HBN.out.grown hg7 HBN.out.size (fun k hk => by injection hk with hk; omega))
     have HA7 := Lib.hid (show ∃ c7, ArAt w7 ab mb c7 (arenaTo x (j + 1)) ∧ c7 ≤ j + 1 from by
      have h1 := hA7.imp (Z' := fun _ => True) (fun _ _ => trivial)
      obtain ⟨g1, g2, g3⟩ := HR.out
      rw [g3, g2, putM_tab g1] at h1
      refine ⟨_, h1, ?_⟩
      have h2 := HC.out
      by_cases e : j = 0
      ·
       rw [if_pos (by simpa using e)]; omega
      ·
       rw [if_neg (by simpa using e)]; have := h2.2 (by omega); omega)
     clear hA7 hg7 TPU
     go_wp2
     go_roundw
     case rel =>
      obtain ⟨c7, h1, h2⟩ := HA7.out
      exact ⟨j + 1, c7, by go_num, by omega, h1, by omega, fun _ => h2, HB7.out⟩
     case measure => simp [intOf]; omega
    ·
     obtain rfl : j = x.length := by omega
     have hA := HA.out
     rw [arenaTo_all] at hA
     have HAF := Lib.hid hA
     clear hA hb
     go_wp2
     refine bodyPost_ret (v := .tuple #[.pointer (some ⟨ab, 0, none⟩), .slice a4 x.length c4]) (by simp [results, Tryz.results7, go_sem]) rfl ?_
     have hbw : Below w.heap.size w wr := HB4.out.trans (HB.out.mono HB4.out.size)
     exact ⟨ab, mb, cj, _, x, HXO.out, rfl, (HX4.out.below HB.out (Nat.le_refl _)).more HB.out.size, HAF.out, hbw⟩
end Go.Proofs.YtihmbbkppkgcmaaGreatDoor
namespace Go.Proofs.YtihmbbkppkgcmaaGreatDoor
open Go.RowKit
theorem arok_arena {x : List Hg.Row} (h : RowsOk x) : ArOk (arenaOf x) := by
 obtain ⟨h1, h2, h3, h4⟩ := h.facts
 unfold arenaOf
 by_cases hx : x = []
 ·
  rw [if_pos hx]
  have e : rootM = tabM [⟨1, ⟨1, [], 0, 0, 0, []⟩⟩] := by
   funext i
   unfold rootM putM tabM
   by_cases h1 : i = 1
   ·
    subst h1; rfl
   ·
    rw [if_neg h1]
    by_cases h0 : i = 0
    ·
     rw [if_pos h0]
    ·
     rw [if_neg h0, List.getElem?_eq_none (by simp; omega)]
     rfl
  rw [e]
  refine arok_tab ⟨?_, ?_, by decide, ?_⟩
  all_goals
   intro k r hr
   have hk : k < 1 := (List.getElem?_eq_some_iff.1 hr).1
   obtain rfl : k = 0 := by omega
   injection hr with hr
   subst hr
   decide
 ·
  rw [if_neg hx]
  rcases h1 with e | ht
  ·
   exact absurd e hx
  ·
   exact arok_tab (Tr.weak ht (by omega) (fun k r hr => by have := h3 r (List.mem_of_getElem? hr); omega))
end Go.Proofs.YtihmbbkppkgcmaaGreatDoor
namespace Hg
namespace Rd
theorem program_len (f : Nat) (l : List Tok) (s' : Rd) (h : program f (begin_ l) = some s') : 1 ≤ s'.rows.length := by
 unfold program at h
 dsimp only at h
 have hr : ((begin_ l).node 0 (nd 1)).rows = [⟨1, nd 1⟩] := rfl
 cases e : modsLoop f f ((begin_ l).node 0 (nd 1)) (begin_ l).rows.length with
 | none => rw [e] at h; simp at h
 | some a =>
   rw [e] at h
   injection h with h
   subst h
   have h1 := (modsLoop_ps f f _ _ _ e).1.len
   have h2 := (link_es a.calls a.wants a).grow.len
   rw [hr] at h1
   simp only [List.length_cons, List.length_nil] at h1
   omega
end Rd
theorem parse_ne (s : Str) (h : (parseOf s).2 = 0) : (parseOf s).1 ≠ [] := by
 intro hn
 cases e : r8all s with
 | none => rw [parse_none e] at h; simp at h
 | some l =>
   obtain ⟨r, hr, _, _, _, e2⟩ := parse_some e
   have hl := Rd.program_len _ _ _ hr
   rw [e2] at h hn
   split at h
   ·
    simp at h
   ·
    rename_i h1
    rw [if_neg h1] at hn
    split at h
    ·
     simp at h
    ·
     rename_i h2
     rw [if_neg h2] at hn
     split at h
     ·
      rename_i h3
      exact h3 h
     ·
      rename_i h3
      rw [if_neg h3] at hn
      dsimp only at hn
      rw [hn] at hl
      simp at hl
end Hg
namespace Go.Proofs.YtihmbbkppkgcmaaGreatDoor
open Go.RowKit
theorem fall_ne : (Hg.parseOf fallS).1.length ≠ 0 := by decide +kernel
theorem RowsOk.ne {x : List Hg.Row} (h : RowsOk x) : x ≠ [] := by
 obtain ⟨s', _, rfl, h | rfl⟩ := h
 ·
  exact Hg.parse_ne s' h
 ·
  intro e
  exact fall_ne (by rw [e]; rfl)
theorem RowsOk.tr {x : List Hg.Row} (h : RowsOk x) : Hg.Tr x := by
 rcases h.facts.1 with e | ht
 ·
  exact absurd e h.ne
 ·
  exact ht
theorem RowsOk.trw {x : List Hg.Row} (h : RowsOk x) : TrW x :=
 Tr.weak h.tr (by have := h.facts.2.1; omega) (fun k r hr => by have := h.facts.2.2.1 r (List.mem_of_getElem? hr); omega)
theorem RowsOk.arena {x : List Hg.Row} (h : RowsOk x) : arenaOf x = tabM x := by unfold arenaOf; rw [if_neg h.ne]
theorem parent_some {rows : List Hg.Row} (h : Hg.Tr rows) {k : Nat} {r : Hg.Row} (hr : rows[k]? = some r) (h1 : r.node.kind ≠ 1) : (Hg.parentOf rows (k + 1)).1 ≠ 0 := by
 have hk : k ≠ 0 := by
  intro e
  subst e
  exact h1 (h.root r hr)
 have hkl : k < rows.length := (List.getElem?_eq_some_iff.1 hr).1
 have hin : k + 1 ∈ rows.flatMap (fun r => r.node.kids) := by
  rw [h.perm.mem_iff, List.mem_range'_1]
  omega
 rw [List.mem_flatMap] at hin
 obtain ⟨x, hx, hxk⟩ := hin
 rcases parentOf_spec rows (k + 1) with ⟨_, h2⟩ | ⟨p, r', m, h1, h2, h4, _⟩
 ·
  have := h2 x hx
  have h5 := idxI_mem x.node.kids (k + 1)
  have h6 : decide (0 ≤ idxI x.node.kids (k + 1)) = true := by rw [h5]; simpa using hxk
  have h7 : 0 ≤ idxI x.node.kids (k + 1) := by simpa using h6
  omega
 ·
  rw [h2]
  have := h.rid p r' h1
  show r'.id ≠ 0
  omega
theorem chain_some {rows : List Hg.Row} (h : Hg.Tr rows) (hw : TrW rows) : ∀ (n k : Nat), k ≤ n → ∀ (r : Hg.Row), rows[k]? = some r → 3 ≤ r.node.kind → ∃ c, c ≠ 0 ∧ Chain (tabM rows) 3 (k + 1) c := by
 intro n
 induction n with
 | zero =>
   intro k hk r hr h3
   have : k = 0 := by omega
   subst this
   have := h.root r hr
   omega
 | succ n ih =>
   intro k hk r hr h3
   by_cases e : r.node.kind = 3
   ·
    exact ⟨k + 1, by omega, .hit (k + 1) r.node (by omega) (tabM_at hr) e⟩
   ·
    obtain ⟨p, r', m, h1, h2, h4, h5⟩ := parent_step h hr (by omega)
    obtain ⟨c, hc0, hc⟩ := ih p (by omega) r' h2 h5
    have hp := parin_tab hw (k + 1)
    rw [h1] at hp
    exact ⟨c, hc0, .step (k + 1) r.node (p + 1) m c (by omega) (tabM_at hr) e hp hc⟩
theorem scope_ex {x : List Hg.Row} (h : RowsOk x) {i : Nat} {nd : Hg.Node} (hi : tabM x i = some nd) : ∃ r, ScopeIs (tabM x) i r ∧ (nd.kind = 2 ∨ nd.kind = 3 ∨ nd.kind = 4 ∨ nd.kind = 6 → r ≠ 0) := by
 have hk : kindAt (tabM x) i = nd.kind := by unfold kindAt; rw [hi]; rfl
 obtain ⟨k, r, rfl, hr, rfl⟩ := tabM_some hi
 by_cases h23 : r.node.kind = 2 ∨ r.node.kind = 3
 ·
  exact ⟨_, .inl ⟨by rw [hk]; exact h23, _, parin_tab h.trw _⟩, fun _ => parent_some h.tr hr (by omega)⟩
 ·
  by_cases h46 : r.node.kind = 4 ∨ r.node.kind = 6
  ·
   obtain ⟨c, hc0, hc⟩ := chain_some h.tr h.trw k k (Nat.le_refl _) r hr (by omega)
   exact ⟨c, .inr (.inl ⟨by rw [hk]; exact h46, hc⟩), fun _ => hc0⟩
  ·
   exact ⟨0, .inr (.inr ⟨by rw [hk]; omega, by rw [hk]; omega, by rw [hk]; omega, by rw [hk]; omega, rfl⟩), fun e => by omega⟩
theorem wantsN_cases {k : Nat} (h : wantsN k ≠ 0) (h14 : k ≠ 14) : wantsN k = 2 ∨ wantsN k = 3 ∨ wantsN k = 4 ∨ wantsN k = 6 := by
 unfold wantsN at h ⊢
 repeat' split
 all_goals simp_all
theorem of_cases {x : List Hg.Row} (h : RowsOk x) (o : Opn) (hb : o.b = 0) (hok : OpOk o.k o.a o.n) :
 (∃ nd r, tabM x o.a = some nd ∧ nd.kind = wantsN o.k ∧ wantsN o.k ≠ 0 ∧ ScopeIs (tabM x) o.a r ∧ (o.k ≠ 14 → r ≠ 0) ∧ OfIs (tabM x) o [o.a] (if o.k = 14 then [] else [(r, o.n), (r, nd.name)]) true) ∨
  ((∀ nd, tabM x o.a = some nd → nd.kind ≠ wantsN o.k) ∧ OfIs (tabM x) o [] [] false) := by
 cases hM : tabM x o.a with
 | none => exact .inr ⟨fun nd h => by (try rw [hM] at h); simp at h, .inr ⟨rfl, rfl, rfl, .inl hM⟩⟩
 | some nd =>
   by_cases hk : nd.kind = wantsN o.k
   ·
    have hw : wantsN o.k ≠ 0 := by
     rcases hok.2 with ⟨hk, _⟩ | ⟨hk, _⟩
     ·
      unfold wantsN
      rcases hk with e | e | e | e <;> rw [e] <;> decide
     ·
      rw [hk]; decide
    obtain ⟨r, hs, hr⟩ := scope_ex h hM
    have h14 : o.k ≠ 14 → r ≠ 0 := fun e => hr (by rw [hk]; exact wantsN_cases hw e)
    exact .inl ⟨nd, r, rfl, hk, hw, hs, h14, .inl ⟨rfl, rfl, nd, r, hM, hk, hw, hok, hb, hs, rfl⟩⟩
   ·
    refine .inr ⟨fun nd' h => ?_, .inr ⟨rfl, rfl, rfl, .inr (.inr ⟨nd, hM, hk⟩)⟩⟩
    injection h with h
    subst h
    exact hk
theorem of_other {M : ArM} {o : Opn} (h : wantsN o.k = 0) : OfIs M o [] [] false := .inr ⟨rfl, rfl, rfl, .inr (.inl h)⟩
end Go.Proofs.YtihmbbkppkgcmaaGreatDoor
namespace Go.Proofs.YtihmbbkppkgcmaaGreatDoor
open Go.RowKit
end Go.Proofs.YtihmbbkppkgcmaaGreatDoor
