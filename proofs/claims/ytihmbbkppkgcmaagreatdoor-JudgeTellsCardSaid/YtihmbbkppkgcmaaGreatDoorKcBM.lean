/-
  Part of a proof: contracts of functions that the claim reaches, and plain lemmas.
-/
import Derived.Test.YtihmbbkppkgcmaaGreatDoorKcBL
import Derived.Laws.StructEq
import Derived.ChangeKeysEq
import Derived.Test.YtihmbbkppkgcmaaGreatDoorKcAZ
set_option linter.all false
namespace Go.Proofs.YtihmbbkppkgcmaaGreatDoor
open Go.RowKit
theorem idxI_mem (l : List Nat) (id : Nat) : decide (0 ≤ idxI l id) = decide (id ∈ l) := by
 unfold idxI
 cases h : l.findIdx? (· == id) with
 | none =>
   rw [List.findIdx?_eq_none_iff] at h
   have : id ∉ l := fun hm => by simpa using h id hm
   simp [this]
 | some k =>
   rw [List.findIdx?_eq_some_iff_getElem] at h
   obtain ⟨hk, he, _⟩ := h
   have : id ∈ l := by
    have e : l[k] = id := by simpa using he
    rw [← e]; exact List.getElem_mem hk
   simp [this]
theorem containsI_any (B : Nat) (v : Value) (ids : List Nat) (id : Nat) (w : World) (hs : Sl w B v ids.length (ids.map idV)) (hl : ids.length ≤ 1000000) :
 Calls Tryz.prog 17 #[v, .int .u64 (id : Int)] w fun e w' => e = .returned (.bool (decide (id ∈ ids))) ∧ w = w' := by
 have TI := Lib.hid (index_any B v ids id w hs hl)
 have hq := idxI_mem ids id
 generalize decide (id ∈ ids) = d at hq ⊢
 generalize idxI ids id = i at TI hq
 obtain ⟨a, c, rfl⟩ := hs.form
 clear hs
 go_enter Tryz.func17, Tryz.ntmps17
 go_wp2_with fail
 refine TI.out.mono ?_
 rintro e w1 ⟨rfl, rfl⟩
 go_wp2
 go_ret
 exact ⟨rfl, rfl⟩
abbrev Cl := Nat × List UInt8
def clCells (c : Cl) : List Value := [.int .u64 (c.1 : Int), strV c.2]
@[reducible] def clV (c : Cl) : Value := .agg #[.int .u64 (c.1 : Int), strV c.2]
theorem cl_under : (Tryz.prog).underlying 57 = some (.struct ((Tryz.prog).fieldsOf 57)) := by kernel_rfl
theorem cl_held : (Tryz.prog).stoodInHeld 57 = false := by kernel_rfl
theorem cl_guard : (Tryz.prog).eqGuardType (Tryz.prog).depth 57 = false := by kernel_rfl
theorem eq_claim (W : World) (a b : Cl) : (binOp .eql 57 (clV a) (clV b)).run Tryz.prog W = .ok (.bool (decide (a = b))) W := by
 have hf := TypeDesc.struct.inj (Option.some.inj (cl_under.symm.trans Tryz.underlying57))
 rw [run_eql_struct, run_equalIn_struct W 9999 57 _ _ cl_under cl_held, hf]
 have h1 := Tryz.underlying28
 have h2 := Tryz.underlying9
 have p1 : (Tryz.prog).plainKey 28 = true := by kernel_rfl
 have p2 : (Tryz.prog).plainKey 9 = true := by kernel_rfl
 have e1 := fun d a b => run_equalIn_int (P := Tryz.prog) W d 28 .u64 .u64 a b h1
 have e2 := fun d a b => run_equalIn_string (P := Tryz.prog) W d 9 a b h2
 have n1 : ("Scope" ≠ "_") := by decide
 have n2 : ("Name" ≠ "_") := by decide
 have a1 : ∀ W (c : Cl), (part 28 #[.int .u64 (c.1 : Int), strV c.2] 0).run Tryz.prog W = .ok (.int .u64 (c.1 : Int)) W := fun W c => run_part_plain (P := Tryz.prog) W p1 rfl
 have a2 : ∀ W (c : Cl), (part 9 #[.int .u64 (c.1 : Int), strV c.2] 1).run Tryz.prog W = .ok (strV c.2) W := fun W c => run_part_plain (P := Tryz.prog) W p2 rfl
 have hx : ∀ l : List UInt8, (ByteArray.mk l.toArray).toList = l := fun l => by rw [ByteArray.toList_eq]
 have e1' := e1 9998 (a.1 : Int) (b.1 : Int)
 have e2' := e2 9998 ⟨a.2.toArray⟩ ⟨b.2.toArray⟩
 rw [hx, hx] at e2'
 simp only [Op.eqFields, Sem.run_bind, Sem.run_ite, Sem.run_pure, if_pos n1, if_pos n2, a1, a2, Result.andThen_ok, e1', e2']
 by_cases h1 : a.1 = b.1
 ·
  by_cases h2 : a.2 = b.2
  ·
   have : a = b := Prod.ext h1 h2
   simp [h1, h2, this]
  ·
   have : a ≠ b := fun e => h2 (by rw [e])
   simp [h1, h2, this]
 ·
  have h3 : ¬ (a.1 : Int) = (b.1 : Int) := by omega
  have : a ≠ b := fun e => h1 (by rw [e])
  simp [h3, this]
theorem clCells_len (l : List Cl) : (l.flatMap clCells).length = l.length * 2 := by
 induction l with
 | nil => rfl
 | cons t l ih => rw [List.flatMap_cons, List.length_append, ih]; simp [clCells]; omega
theorem clCells_get : ∀ (l : List Cl) (k j : Nat) (t : Cl), l[k]? = some t → j < 2 → (l.flatMap clCells)[k * 2 + j]? = (clCells t)[j]?
 | t0 :: l, 0, j, t, h, hj => by
   simp only [List.getElem?_cons_zero, Option.some.injEq] at h
   subst h
   rw [List.flatMap_cons, List.getElem?_append_left (by simp [clCells]; omega)]
   simp
 | t0 :: l, k + 1, j, t, h, hj => by
   simp only [List.getElem?_cons_succ] at h
   rw [List.flatMap_cons, List.getElem?_append_right (by simp [clCells]; omega), ← clCells_get l k j t h hj]
   congr 1
   simp [clCells]; omega
 | [], k, j, t, h, hj => by simp at h
theorem Sl.clAt {w : World} {B n c : Nat} {a : Option Addr} {l : List Cl} (h : Sl w B (.slice a n c) l.length (l.flatMap clCells)) {k : Nat} {t : Cl} (ht : l[k]? = some t) :
 ∃ b o, a = some ⟨b, o, none⟩ ∧ b < B ∧ w.cell? ⟨b, o + k * 2, none⟩ = some (.int .u64 (t.1 : Int)) ∧ w.cell? ⟨b, o + k * 2 + 1, none⟩ = some (strV t.2) := by
 obtain ⟨a', c', hv, hc⟩ := h
 injection hv with h1 h2 h3
 subst h1
 have hk : k < l.length := (List.getElem?_eq_some_iff.1 ht).1
 obtain ⟨b, o, ha, hb, hx⟩ := hc (by rw [clCells_len]; omega)
 have cell : ∀ j u, j < 2 → (clCells t)[j]? = some u → w.cell? ⟨b, o + (k * 2 + j), none⟩ = some u := by
  intro j u hj hu
  have h1 := clCells_get l k j t ht hj
  rw [hu] at h1
  obtain ⟨hlt, he⟩ := List.getElem?_eq_some_iff.1 h1
  rw [hx _ hlt, he]
 exact ⟨b, o, ha, hb, cell 0 _ (by omega) rfl, cell 1 _ (by omega) rfl⟩
def idxC (l : List Cl) (c : Cl) : Int := match l.findIdx? (· == c) with | some k => (k : Int) | none => -1
theorem idxC_mem (l : List Cl) (c : Cl) : decide (0 ≤ idxC l c) = decide (c ∈ l) := by
 unfold idxC
 cases h : l.findIdx? (· == c) with
 | none =>
   rw [List.findIdx?_eq_none_iff] at h
   have : c ∉ l := fun hm => by simpa using h c hm
   simp [this]
 | some k =>
   rw [List.findIdx?_eq_some_iff_getElem] at h
   obtain ⟨hk, he, _⟩ := h
   have : c ∈ l := by
    have e : l[k] = c := by simpa using he
    rw [← e]; exact List.getElem_mem hk
   simp [this]
theorem idxC_hit (l : List Cl) (c : Cl) (k : Nat) (hk : k < l.length) (h : l[k] = c) (hno : ∀ (j : Nat) (x : Cl), j < k → l[j]? = some x → x ≠ c) : idxC l c = (k : Int) := by
 have : l.findIdx? (· == c) = some k := by
  rw [List.findIdx?_eq_some_iff_getElem]
  exact ⟨hk, by simpa using h, fun j hj => by simpa using hno j l[j] hj (List.getElem?_eq_getElem (by omega))⟩
 simp [idxC, this]
theorem idxC_miss (l : List Cl) (c : Cl) (hno : ∀ (j : Nat) (x : Cl), j < l.length → l[j]? = some x → x ≠ c) : idxC l c = -1 := by
 have : l.findIdx? (· == c) = none := by
  rw [List.findIdx?_eq_none_iff]
  intro x hx
  obtain ⟨j, hj, he⟩ := List.mem_iff_getElem.1 hx
  simpa using hno j x hj (by rw [List.getElem?_eq_getElem hj, he])
 simp [idxC, this]
set_option maxHeartbeats 2000000 in
set_option maxRecDepth 100000 in
theorem indexC_any (v : Value) (l : List Cl) (c : Cl) (w : World) (hs : Sl w w.heap.size v l.length (l.flatMap clCells)) (hl : l.length ≤ 1000000) :
 Calls Tryz.prog 33 #[v, clV c] w fun e w' => e = .returned (.int .i64 (idxC l c)) ∧ Below w.heap.size w w' := by
 have HS := Lib.hid hs
 obtain ⟨a, cc, rfl⟩ := hs.form
 clear hs
 have hbA : Below w.heap.size w (w.alloc (.cells #[.int .u64 (c.1 : Int), strV c.2] 57)) := (Below.refl _ _).alloc (Nat.le_refl _) _
 have hhA := heap_alloc_new w (.cells #[.int .u64 (c.1 : Int), strV c.2] 57)
 go_enter Tryz.func33, Tryz.ntmps33
 go_wp2
 go_loopw [8] (fun i wr => ∃ k : Nat, k ≤ l.length ∧ i = .int .i64 k ∧ Below w.heap.size w wr ∧ wr.heap[w.heap.size]? = some (.cells #[.int .u64 (c.1 : Int), strV c.2] 57 (0, 0)) ∧ ∀ (j : Nat) (x : Cl), j < k → l[j]? = some x → x ≠ c) (fun i wr => l.length - (intOf i).toNat)
 case atStart => exact ⟨0, Nat.zero_le _, rfl, hbA, hhA, fun j r hj => by omega⟩
 case round =>
  obtain ⟨k, hk, rfl, hb, hh, hno⟩ := hrel
  clear hbA hhA
  have HN := Lib.hid hno
  clear hno
  by_cases hlt : k < l.length
  ·
   obtain ⟨x, hx⟩ : ∃ x, l[k]? = some x := ⟨_, List.getElem?_eq_getElem hlt⟩
   obtain ⟨b, o, rfl, hbb, k0, k1⟩ := (HS.out.below hb (Nat.le_refl _)).clAt hx
   have c0 := cell_of_row wr w.heap.size 0 _ _ (0, 0) hh
   have c1 := cell_of_row wr w.heap.size 1 _ _ (0, 0) hh
   simp at c0 c1
   have hgd := cl_guard
   have heq := fun W => eq_claim W c x
   have HX := Lib.hid hx
   have HB := Lib.hid hb
   have HH := Lib.hid hh
   by_cases hcx : c = x
   ·
    have hd : decide (c = x) = true := by simpa using hcx
    rw [hd] at heq
    have HCX := Lib.hid hcx
    clear hcx hd hx hb hh
    go_wp2
    go_quiet (fail)
    go_wp2
    go_ret
    exact ⟨ret_i64 (idxC_hit l c k hlt (by have := List.getElem?_eq_getElem hlt; rw [HX.out] at this; injection this with this; rw [← this, HCX.out]) HN.out).symm, below_drewN HB.out nq⟩
   ·
    have hd : decide (c = x) = false := by simpa using hcx
    rw [hd] at heq
    have HCX := Lib.hid hcx
    clear hcx hd hx hb hh
    go_wp2
    go_quiet (fail)
    go_wp2
    go_roundw
    case rel => exact ⟨k + 1, by omega, by go_num, below_drewN HB.out nq, HH.out, fun j y hj hy => by
     by_cases e : j = k
     ·
      subst e
      rw [HX.out] at hy
      injection hy with hy
      rw [← hy]
      exact fun e => HCX.out e.symm
     ·
      exact HN.out j y (by omega) hy⟩
    case measure => simp [intOf]; omega
  ·
   obtain rfl : k = l.length := by omega
   go_wp2
   go_ret
   exact ⟨ret_i64 (idxC_miss l c HN.out).symm, hb⟩
set_option maxHeartbeats 2000000 in
theorem containsC_any (v : Value) (l : List Cl) (c : Cl) (w : World) (hs : Sl w w.heap.size v l.length (l.flatMap clCells)) (hl : l.length ≤ 1000000) :
 Calls Tryz.prog 18 #[v, clV c] w fun e w' => e = .returned (.bool (decide (c ∈ l))) ∧ Below w.heap.size w w' := by
 have hbA : Below w.heap.size w (w.alloc (.cells #[.int .u64 (c.1 : Int), strV c.2] 57)) := (Below.refl _ _).alloc (Nat.le_refl _) _
 have TI := Lib.hid (indexC_any v l c _ ((hs.below hbA (Nat.le_refl _)).more hbA.size) hl)
 have hq := idxC_mem l c
 generalize decide (c ∈ l) = d at hq ⊢
 generalize idxC l c = i at TI hq
 obtain ⟨a, cc, rfl⟩ := hs.form
 clear hs
 go_enter Tryz.func18, Tryz.ntmps18
 go_wp2_with fail
 refine TI.out.mono ?_
 rintro e w1 ⟨rfl, hb1⟩
 have HB := Lib.hid (hbA.trans (hb1.mono hbA.size))
 clear TI hbA hb1
 go_wp2
 go_ret
 exact ⟨rfl, HB.out⟩
theorem inI_any (mv : Value) (m : List Nat) (x cb : Nat) (w : World) (hm : Sl w w.heap.size mv m.length (m.map idV)) (hc : w.heap[cb]? = some (.cells #[mv] 29 (0, 0))) (hml : m.length ≤ 1000000) :
 Calls Tryz.prog 53 #[.int .u64 (x : Int), .pointer (some ⟨cb, 0, none⟩)] w fun e w' => e = .returned (.bool (decide (x ∈ m))) ∧ w = w' := by
 have TC := Lib.hid (containsI_any _ mv m x w hm hml)
 generalize decide (x ∈ m) = d at TC ⊢
 obtain ⟨a, c, rfl⟩ := hm.form
 have c0 := cell_of_row w cb 0 _ _ (0, 0) hc
 simp at c0
 clear hm hc
 go_enter Tryz.func53, Tryz.ntmps53
 go_wp2_with fail
 refine TC.out.mono ?_
 rintro e w1 ⟨rfl, rfl⟩
 go_wp2
 go_ret
 exact ⟨rfl, rfl⟩
set_option maxHeartbeats 2000000 in
set_option maxRecDepth 100000 in
theorem indexFI_any (v mv : Value) (l m : List Nat) (cb : Nat) (w : World) (hs : Sl w w.heap.size v l.length (l.map idV)) (hm : Sl w w.heap.size mv m.length (m.map idV)) (hc : w.heap[cb]? = some (.cells #[mv] 29 (0, 0))) (hl : l.length ≤ 1000000) (hml : m.length ≤ 1000000) :
 Calls Tryz.prog 88 #[v, .func (.func 53) #[] #[.pointer (some ⟨cb, 0, none⟩)]] w fun e w' => (∃ r : Int, e = .returned (.int .i64 r) ∧ decide (0 ≤ r) = decide (∃ x ∈ l, x ∈ m)) ∧ w = w' := by
 have HS := Lib.hid hs
 have HM := Lib.hid hm
 have HC := Lib.hid hc
 obtain ⟨a, c, rfl⟩ := hs.form
 clear hs hm hc
 go_enter Tryz.func88, Tryz.ntmps88
 go_wp2
 go_loopw [8] (fun i wr => ∃ k : Nat, k ≤ l.length ∧ i = .int .i64 k ∧ w = wr ∧ ∀ (j : Nat) (x : Nat), j < k → l[j]? = some x → x ∉ m) (fun i wr => l.length - (intOf i).toNat)
 case atStart => exact ⟨0, by omega, rfl, by first | trivial | rfl, fun j r hj => by omega⟩
 case round =>
  obtain ⟨k, hk, rfl, rfl, hno⟩ := hrel
  have HN := Lib.hid hno
  clear hno
  by_cases hlt : k < l.length
  ·
   obtain ⟨b, o, rfl, _, kc⟩ := HS.out.idAt hlt
   have TI := Lib.hid (inI_any mv m l[k] cb w HM.out HC.out hml)
   by_cases hx : l[k] ∈ m
   ·
    have hd : decide (l[k] ∈ m) = true := by simpa using hx
    rw [hd] at TI
    have HX := Lib.hid hx
    clear hx hd
    go_wp2_with fail
    refine TI.out.mono ?_
    rintro e w1 ⟨rfl, rfl⟩
    go_wp2
    go_ret
    refine ⟨⟨(k : Int), rfl, ?_⟩, rfl⟩
    have h1 : ∃ x ∈ l, x ∈ m := ⟨l[k], List.getElem_mem hlt, HX.out⟩
    simp [h1]
   ·
    have hd : decide (l[k] ∈ m) = false := by simpa using hx
    rw [hd] at TI
    have HX := Lib.hid hx
    clear hx hd
    go_wp2_with fail
    refine TI.out.mono ?_
    rintro e w1 ⟨rfl, rfl⟩
    go_wp2
    go_roundw
    case rel => exact ⟨k + 1, by omega, by go_num, by first | trivial | rfl, fun j x hj hx => by
     by_cases e : j = k
     ·
      subst e; rw [List.getElem?_eq_getElem hlt] at hx; injection hx with hx; rw [← hx]; exact HX.out
     ·
      exact HN.out j x (by omega) hx⟩
    case measure => simp [intOf]; omega
  ·
   obtain rfl : k = l.length := by omega
   go_wp2
   go_ret
   refine ⟨⟨-1, rfl, ?_⟩, rfl⟩
   have : ¬ ∃ x ∈ l, x ∈ m := by
    rintro ⟨x, hx, hxm⟩
    obtain ⟨j, hj, he⟩ := List.mem_iff_getElem.1 hx
    exact HN.out j x hj (by rw [List.getElem?_eq_getElem hj, he]) hxm
   simp [this]
set_option maxHeartbeats 2000000 in
theorem containsFI_any (v mv : Value) (l m : List Nat) (cb : Nat) (w : World) (hs : Sl w w.heap.size v l.length (l.map idV)) (hm : Sl w w.heap.size mv m.length (m.map idV)) (hc : w.heap[cb]? = some (.cells #[mv] 29 (0, 0))) (hl : l.length ≤ 1000000) (hml : m.length ≤ 1000000) :
 Calls Tryz.prog 52 #[v, .func (.func 53) #[] #[.pointer (some ⟨cb, 0, none⟩)]] w fun e w' => e = .returned (.bool (decide (∃ x ∈ l, x ∈ m))) ∧ w = w' := by
 have TI := Lib.hid (indexFI_any v mv l m cb w hs hm hc hl hml)
 generalize decide (∃ x ∈ l, x ∈ m) = d at TI ⊢
 obtain ⟨a, c, rfl⟩ := hs.form
 clear hs hm hc
 go_enter Tryz.func52, Tryz.ntmps52
 go_wp2_with fail
 refine TI.out.mono ?_
 rintro e w1 ⟨⟨r, rfl, hq⟩, rfl⟩
 go_wp2
 go_ret
 exact ⟨rfl, rfl⟩
set_option maxHeartbeats 2000000 in
theorem meetI_any (v mv : Value) (l m : List Nat) (w : World) (hs : Sl w w.heap.size v l.length (l.map idV)) (hm : Sl w w.heap.size mv m.length (m.map idV)) (hl : l.length ≤ 1000000) (hml : m.length ≤ 1000000) :
 Calls Tryz.prog 34 #[v, mv] w fun e w' => e = .returned (.bool (decide (∃ x ∈ l, x ∈ m))) ∧ Below w.heap.size w w' := by
 have hbA : Below w.heap.size w (w.alloc (.cells #[mv] 29)) := (Below.refl _ _).alloc (Nat.le_refl _) _
 have TI := Lib.hid (containsFI_any v mv l m w.heap.size _ ((hs.below hbA (Nat.le_refl _)).more hbA.size) ((hm.below hbA (Nat.le_refl _)).more hbA.size) (heap_alloc_new w _) hl hml)
 generalize decide (∃ x ∈ l, x ∈ m) = d at TI ⊢
 obtain ⟨a, c, rfl⟩ := hs.form
 obtain ⟨a2, c2, rfl⟩ := hm.form
 clear hs hm
 go_enter Tryz.func34, Tryz.ntmps34
 go_wp2_with fail
 refine TI.out.mono ?_
 rintro e w1 ⟨rfl, rfl⟩
 have HB := Lib.hid hbA
 clear hbA TI
 go_wp2
 go_ret
 exact ⟨rfl, HB.out⟩
set_option maxHeartbeats 2000000 in
theorem inC_any (mv : Value) (m : List Cl) (x : Cl) (cb : Nat) (w : World) (hm : Sl w w.heap.size mv m.length (m.flatMap clCells)) (hc : w.heap[cb]? = some (.cells #[mv] 45 (0, 0))) (hml : m.length ≤ 1000000) :
 Calls Tryz.prog 55 #[clV x, .pointer (some ⟨cb, 0, none⟩)] w fun e w' => e = .returned (.bool (decide (x ∈ m))) ∧ Below w.heap.size w w' := by
 have hbA : Below w.heap.size w (w.alloc (.cells #[.int .u64 (x.1 : Int), strV x.2] 57)) := (Below.refl _ _).alloc (Nat.le_refl _) _
 have TC := Lib.hid (containsC_any mv m x _ ((hm.below hbA (Nat.le_refl _)).more hbA.size) hml)
 generalize decide (x ∈ m) = d at TC ⊢
 obtain ⟨a, c, rfl⟩ := hm.form
 have c0 := cell_of_row w cb 0 _ _ (0, 0) hc
 simp at c0
 have hcl : cb < w.heap.size := (Array.getElem?_eq_some_iff.1 hc).1
 clear hm hc
 go_enter Tryz.func55, Tryz.ntmps55
 go_wp2_with fail
 refine TC.out.mono ?_
 rintro e w1 ⟨rfl, hb1⟩
 have HB := Lib.hid (hbA.trans (hb1.mono hbA.size))
 clear TC hbA hb1
 go_wp2
 go_ret
 exact ⟨rfl, HB.out⟩
set_option maxHeartbeats 2000000 in
set_option maxRecDepth 100000 in
theorem indexFC_any (v mv : Value) (l m : List Cl) (cb : Nat) (w : World) (hs : Sl w w.heap.size v l.length (l.flatMap clCells)) (hm : Sl w w.heap.size mv m.length (m.flatMap clCells)) (hc : w.heap[cb]? = some (.cells #[mv] 45 (0, 0))) (hl : l.length ≤ 1000000) (hml : m.length ≤ 1000000) :
 Calls Tryz.prog 89 #[v, .func (.func 55) #[] #[.pointer (some ⟨cb, 0, none⟩)]] w fun e w' => (∃ r : Int, e = .returned (.int .i64 r) ∧ decide (0 ≤ r) = decide (∃ x ∈ l, x ∈ m)) ∧ Below w.heap.size w w' := by
 have HS := Lib.hid hs
 have HM := Lib.hid hm
 have HC := Lib.hid hc
 have hcl : cb < w.heap.size := (Array.getElem?_eq_some_iff.1 hc).1
 obtain ⟨a, c, rfl⟩ := hs.form
 clear hs hm hc
 go_enter Tryz.func89, Tryz.ntmps89
 go_wp2
 go_loopw [8] (fun i wr => ∃ k : Nat, k ≤ l.length ∧ i = .int .i64 k ∧ Below w.heap.size w wr ∧ ∀ (j : Nat) (x : Cl), j < k → l[j]? = some x → x ∉ m) (fun i wr => l.length - (intOf i).toNat)
 case atStart => exact ⟨0, by omega, rfl, Below.refl _ _, fun j r hj => by omega⟩
 case round =>
  obtain ⟨k, hk, rfl, hb, hno⟩ := hrel
  have HN := Lib.hid hno
  have HB := Lib.hid hb
  clear hno hb
  by_cases hlt : k < l.length
  ·
   obtain ⟨y, hy⟩ : ∃ y, l[k]? = some y := ⟨_, List.getElem?_eq_getElem hlt⟩
   obtain ⟨b, o, rfl, _, k0, k1⟩ := (HS.out.below HB.out (Nat.le_refl _)).clAt hy
   have TI := Lib.hid (inC_any mv m y cb wr ((HM.out.below HB.out (Nat.le_refl _)).more HB.out.size) ((HB.out.block cb hcl).trans HC.out) hml)
   have HY := Lib.hid hy
   by_cases hx : y ∈ m
   ·
    have hd : decide (y ∈ m) = true := by simpa using hx
    rw [hd] at TI
    have HX := Lib.hid hx
    clear hx hd hy
    go_wp2_with fail
    refine TI.out.mono ?_
    rintro e w1 ⟨rfl, hb1⟩
    have HB1 := Lib.hid (HB.out.trans (hb1.mono HB.out.size))
    clear TI hb1
    go_wp2
    go_ret
    refine ⟨⟨(k : Int), rfl, ?_⟩, HB1.out⟩
    have h1 : ∃ x ∈ l, x ∈ m := ⟨y, List.mem_of_getElem? HY.out, HX.out⟩
    simp [h1]
   ·
    have hd : decide (y ∈ m) = false := by simpa using hx
    rw [hd] at TI
    have HX := Lib.hid hx
    clear hx hd hy
    go_wp2_with fail
    refine TI.out.mono ?_
    rintro e w1 ⟨rfl, hb1⟩
    have HB1 := Lib.hid (HB.out.trans (hb1.mono HB.out.size))
    clear TI hb1
    go_wp2
    go_roundw
    case rel => exact ⟨k + 1, by omega, by go_num, HB1.out, fun j x hj hx => by
     by_cases e : j = k
     ·
      subst e; rw [HY.out] at hx; injection hx with hx; rw [← hx]; exact HX.out
     ·
      exact HN.out j x (by omega) hx⟩
    case measure => simp [intOf]; omega
  ·
   obtain rfl : k = l.length := by omega
   go_wp2
   go_ret
   refine ⟨⟨-1, rfl, ?_⟩, HB.out⟩
   have : ¬ ∃ x ∈ l, x ∈ m := by
    rintro ⟨x, hx, hxm⟩
    obtain ⟨j, hj, he⟩ := List.mem_iff_getElem.1 hx
    exact HN.out j x hj (by rw [List.getElem?_eq_getElem hj, he]) hxm
   simp [this]
set_option maxHeartbeats 2000000 in
theorem containsFC_any (v mv : Value) (l m : List Cl) (cb : Nat) (w : World) (hs : Sl w w.heap.size v l.length (l.flatMap clCells)) (hm : Sl w w.heap.size mv m.length (m.flatMap clCells)) (hc : w.heap[cb]? = some (.cells #[mv] 45 (0, 0))) (hl : l.length ≤ 1000000) (hml : m.length ≤ 1000000) :
 Calls Tryz.prog 54 #[v, .func (.func 55) #[] #[.pointer (some ⟨cb, 0, none⟩)]] w fun e w' => e = .returned (.bool (decide (∃ x ∈ l, x ∈ m))) ∧ Below w.heap.size w w' := by
 have TI := Lib.hid (indexFC_any v mv l m cb w hs hm hc hl hml)
 generalize decide (∃ x ∈ l, x ∈ m) = d at TI ⊢
 obtain ⟨a, c, rfl⟩ := hs.form
 clear hs hm hc
 go_enter Tryz.func54, Tryz.ntmps54
 go_wp2_with fail
 refine TI.out.mono ?_
 rintro e w1 ⟨⟨r, rfl, hq⟩, hb1⟩
 have HB := Lib.hid hb1
 clear hb1 TI
 go_wp2
 go_ret
 exact ⟨rfl, HB.out⟩
set_option maxHeartbeats 2000000 in
theorem meetC_any (v mv : Value) (l m : List Cl) (w : World) (hs : Sl w w.heap.size v l.length (l.flatMap clCells)) (hm : Sl w w.heap.size mv m.length (m.flatMap clCells)) (hl : l.length ≤ 1000000) (hml : m.length ≤ 1000000) :
 Calls Tryz.prog 35 #[v, mv] w fun e w' => e = .returned (.bool (decide (∃ x ∈ l, x ∈ m))) ∧ Below w.heap.size w w' := by
 have hbA : Below w.heap.size w (w.alloc (.cells #[mv] 45)) := (Below.refl _ _).alloc (Nat.le_refl _) _
 have TI := Lib.hid (containsFC_any v mv l m w.heap.size _ ((hs.below hbA (Nat.le_refl _)).more hbA.size) ((hm.below hbA (Nat.le_refl _)).more hbA.size) (heap_alloc_new w _) hl hml)
 generalize decide (∃ x ∈ l, x ∈ m) = d at TI ⊢
 obtain ⟨a, c, rfl⟩ := hs.form
 obtain ⟨a2, c2, rfl⟩ := hm.form
 clear hs hm
 go_enter Tryz.func35, Tryz.ntmps35
 go_wp2_with fail
 refine TI.out.mono ?_
 rintro e w1 ⟨rfl, hb1⟩
 have HB := Lib.hid (hbA.trans (hb1.mono hbA.size))
 clear hbA TI hb1
 go_wp2
 go_ret
 exact ⟨rfl, HB.out⟩
end Go.Proofs.YtihmbbkppkgcmaaGreatDoor
namespace Go.Proofs.YtihmbbkppkgcmaaGreatDoor
open Go.RowKit
def PrintAt (w : World) (v : Value) (ws : List Nat) (cs : List Cl) (kn : Bool) : Prop :=
 ∃ a1 c1 a2 c2, v = .agg #[.slice a1 ws.length c1, .slice a2 cs.length c2, .bool kn] ∧ Sl w w.heap.size (.slice a1 ws.length c1) ws.length (ws.map idV) ∧ Sl w w.heap.size (.slice a2 cs.length c2) cs.length (cs.flatMap clCells)
theorem PrintAt.below {w w' : World} {v : Value} {ws : List Nat} {cs : List Cl} {kn : Bool} (h : PrintAt w v ws cs kn) (hb : Below w.heap.size w w') : PrintAt w' v ws cs kn := by
 obtain ⟨a1, c1, a2, c2, hv, h1, h2⟩ := h
 exact ⟨a1, c1, a2, c2, hv, (h1.below hb (Nat.le_refl _)).more hb.size, (h2.below hb (Nat.le_refl _)).more hb.size⟩
def meetsB (ws ws' : List Nat) (cs cs' : List Cl) (kn kn' : Bool) : Bool := !kn || (!kn' || (decide (∃ x ∈ ws, x ∈ ws') || decide (∃ x ∈ cs, x ∈ cs')))
set_option maxHeartbeats 4000000 in
set_option maxRecDepth 100000 in
theorem meets_any (p q : Value) (ws ws' : List Nat) (cs cs' : List Cl) (kn kn' : Bool) (w : World) (hp : PrintAt w p ws cs kn) (hq : PrintAt w q ws' cs' kn') (hl : ws.length ≤ 1000000 ∧ ws'.length ≤ 1000000 ∧ cs.length ≤ 1000000 ∧ cs'.length ≤ 1000000) :
 Calls Tryz.prog 19 #[p, q] w fun e w' => e = .returned (.bool (meetsB ws ws' cs cs' kn kn')) ∧ Below w.heap.size w w' := by
 obtain ⟨a1, c1, a2, c2, rfl, s1, s2⟩ := hp
 obtain ⟨a3, c3, a4, c4, rfl, s3, s4⟩ := hq
 obtain ⟨l1, l2, l3, l4⟩ := hl
 have hbA : Below w.heap.size w ((w.alloc (.cells #[.slice a1 ws.length c1, .slice a2 cs.length c2, .bool kn] 47)).alloc (.cells #[.slice a3 ws'.length c3, .slice a4 cs'.length c4, .bool kn'] 47)) := ((Below.refl _ _).alloc (Nat.le_refl _) _).alloc (by simp) _
 cases kn with
 | false =>
   go_enter Tryz.func19, Tryz.ntmps19
   go_wp2
   go_ret
   exact ⟨rfl, hbA⟩
 | true =>
   cases kn' with
   | false =>
     go_enter Tryz.func19, Tryz.ntmps19
     go_wp2
     go_ret
     exact ⟨rfl, hbA⟩
   | true =>
     have TM := Lib.hid (meetI_any _ _ ws ws' _ ((s1.below hbA (Nat.le_refl _)).more hbA.size) ((s3.below hbA (Nat.le_refl _)).more hbA.size) l1 l2)
     have hh1 := heap_alloc2_old w (.cells #[.slice a1 ws.length c1, .slice a2 cs.length c2, .bool true] 47) (.cells #[.slice a3 ws'.length c3, .slice a4 cs'.length c4, .bool true] 47)
     have hh2 := heap_alloc2_new w (.cells #[.slice a1 ws.length c1, .slice a2 cs.length c2, .bool true] 47) (.cells #[.slice a3 ws'.length c3, .slice a4 cs'.length c4, .bool true] 47)
     have hzA : ((w.alloc (.cells #[.slice a1 ws.length c1, .slice a2 cs.length c2, .bool true] 47)).alloc (.cells #[.slice a3 ws'.length c3, .slice a4 cs'.length c4, .bool true] 47)).heap.size = w.heap.size + 2 := by simp
     have he : meetsB ws ws' cs cs' true true = (decide (∃ x ∈ ws, x ∈ ws') || decide (∃ x ∈ cs, x ∈ cs')) := rfl
     rw [he]
     have HS2 := Lib.hid s2
     have HS4 := Lib.hid s4
     clear s1 s2 s3 s4 he
     generalize hd : decide (∃ x ∈ ws, x ∈ ws') = d at TM ⊢
     clear hd
     cases d with
     | true =>
       go_enter Tryz.func19, Tryz.ntmps19
       go_wp2_with fail
       refine TM.out.mono ?_
       rintro e w1 ⟨rfl, hb1⟩
       have HB := Lib.hid (hbA.trans (hb1.mono hbA.size))
       clear TM hbA hb1 hh1 hh2 hzA
       go_wp2
       go_ret
       exact ⟨rfl, HB.out⟩
     | false =>
       go_enter Tryz.func19, Tryz.ntmps19
       go_wp2_with fail
       refine TM.out.mono ?_
       rintro e w1 ⟨rfl, hb1⟩
       have HB := Lib.hid (hbA.trans (hb1.mono hbA.size))
       have g1 := (hb1.block w.heap.size (by omega)).trans hh1
       have g2 := (hb1.block (w.heap.size + 1) (by omega)).trans hh2
       have k1 := cell_of_row w1 w.heap.size 1 _ _ (0, 0) g1
       have k2 := cell_of_row w1 (w.heap.size + 1) 1 _ _ (0, 0) g2
       simp at k1 k2
       have TC := Lib.hid (meetC_any _ _ cs cs' w1 ((HS2.out.below HB.out (Nat.le_refl _)).more HB.out.size) ((HS4.out.below HB.out (Nat.le_refl _)).more HB.out.size) l3 l4)
       generalize hd2 : decide (∃ x ∈ cs, x ∈ cs') = d2 at TC
       have HD2 := Lib.hid hd2
       clear hd2
       clear TM hbA hb1 hh1 hh2 hzA g1 g2
       go_wp2_with fail
       refine TC.out.mono ?_
       rintro e w2 ⟨rfl, hb2⟩
       have HB2 := Lib.hid (HB.out.trans (hb2.mono HB.out.size))
       clear TC hb2
       go_wp2
       go_ret
       exact ⟨by rw [HD2.out]; rfl, HB2.out⟩
def kindAt (M : ArM) (id : Nat) : Nat := ((M id).getD Hg.Node.zero).kind
def ScopeIs (M : ArM) (id r : Nat) : Prop :=
 (kindAt M id = 2 ∨ kindAt M id = 3) ∧ (∃ k, ParIn M id (fun i => i < idTop) r k) ∨ (kindAt M id = 4 ∨ kindAt M id = 6) ∧ Chain M 3 id r ∨ kindAt M id ≠ 2 ∧ kindAt M id ≠ 3 ∧ kindAt M id ≠ 4 ∧ kindAt M id ≠ 6 ∧ r = 0
structure ArOk (M : ArM) : Prop where
 zero : M 0 = none
 kinds : ∀ i n, M i = some n → n.kind ≤ 255
 dec : ∀ i n p k, M i = some n → ParIn M i (fun i => i < idTop) p k → p < i ∨ p = 0
set_option maxHeartbeats 4000000 in
set_option maxRecDepth 100000 in
theorem scope_any (ab mb c : Nat) (M : ArM) (id r : Nat) (w : World) (hA : ArAt w ab mb c M) (hO : ArOk M) (hid : id ≤ 1000000) (hr : ScopeIs M id r) :
 Calls Tryz.prog 10 #[.pointer (some ⟨ab, 0, none⟩), .int .u64 (id : Int)] w fun e w' => e = .returned (.int .u64 (r : Int)) ∧ Below w.heap.size w w' := by
 have hit : id < idTop := by unfold idTop; omega
 have TG := get_any ab mb c M id w hA hit
 unfold GetRes at TG
 have HA := Lib.hid hA
 have HO := Lib.hid hO
 have hk255 : kindAt M id ≤ 255 := by
  unfold kindAt
  cases h : M id with
  | none => simp [Hg.Node.zero]
  | some n => exact hO.kinds id n h
 have hr' := hr
 unfold ScopeIs at hr'
 unfold kindAt at hr' hk255
 generalize (M id).getD Hg.Node.zero = nd at TG hr' hk255
 generalize (M id).isSome = sm at TG
 obtain ⟨nk, nname, nnum, ntype, nref, nkids⟩ := nd
 dsimp only at hr' hk255 TG
 have TG := Lib.hid TG
 have HR := Lib.hid hr'
 clear hA hO hr
 go_enter Tryz.func10, Tryz.ntmps10
 go_wp2_with fail
 refine TG.out.mono ?_
 rintro e w1 ⟨ka, kc, rfl, hs1, hb1⟩
 have HA1 := Lib.hid (HA.out.below hb1 (Nat.le_refl _))
 have HB1 := Lib.hid hb1
 have hbn : Below w1.heap.size w1 (w1.alloc (.cells #[.int .u8 (nk : Int), strV nname, .int .i64 nnum, .int .u8 (ntype : Int), .int .u64 (nref : Int), .slice ka nkids.length kc] 31)) := (Below.refl _ _).alloc (Nat.le_refl _) _
 have HA2 := Lib.hid (HA1.out.below hbn (Nat.le_refl _))
 have HB2 := Lib.hid (hb1.trans (hbn.mono hb1.size))
 clear TG hs1 hb1 hbn HB1 HA HA1
 rcases hr' with ⟨h1, h2⟩ | ⟨h1, h2⟩ | ⟨h1, h2, h3, h4, rfl⟩
 ·
  have TP := Lib.hid (arparent_any ab mb c M id _ HA2.out HO.out.zero)
  have H2 := Lib.hid h2
  rcases h1 with h1 | h1
  all_goals
   subst h1
   clear h2
   go_wp2_with fail
   refine TP.out.mono ?_
   rintro e w3 ⟨p, k, hp, hpt, rfl, hb3⟩
   obtain ⟨k', hk'⟩ := H2.out
   obtain ⟨rfl, rfl⟩ := hp.unique hk'
   have HB3 := Lib.hid (HB2.out.trans (hb3.mono HB2.out.size))
   clear hb3 TP hp hk'
   go_wp2
   go_ret
   exact ⟨rfl, HB3.out⟩
 ·
  have TA := Lib.hid (above_any ab mb c M 3 id r _ HA2.out HO.out.zero hid HO.out.kinds (by omega) HO.out.dec h2)
  rcases h1 with h1 | h1
  all_goals
   subst h1
   clear h2
   go_wp2_with fail
   refine TA.out.mono ?_
   rintro e w3 ⟨rfl, hb3⟩
   have HB3 := Lib.hid (HB2.out.trans (hb3.mono HB2.out.size))
   clear hb3 TA
   go_wp2
   go_ret
   exact ⟨rfl, HB3.out⟩
 ·
  have q2 : ((nk : Int) == 2) = false := by simp; omega
  have q3 : ((nk : Int) == 3) = false := by simp; omega
  have q4 : ((nk : Int) == 4) = false := by simp; omega
  have q6 : ((nk : Int) == 6) = false := by simp; omega
  go_wp2
  go_ret
  exact ⟨rfl, HB2.out⟩
end Go.Proofs.YtihmbbkppkgcmaaGreatDoor
