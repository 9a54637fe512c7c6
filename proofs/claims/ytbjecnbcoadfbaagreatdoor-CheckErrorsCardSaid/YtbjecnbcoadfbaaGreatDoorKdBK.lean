/-
  Part of a proof of CheckErrors: contracts of functions that the claim reaches, and plain lemmas.
-/
import Derived.Test.YtbjecnbcoadfbaaGreatDoorKdBJ
set_option linter.all false
namespace Hg
def findF (M : Nat → Option Node) (mod fn : Str) (m : Nat) (l : List Nat) : Option Nat := l.find? fun f => nameK M m == mod && nameK M f == fn
def findM (M : Nat → Option Node) (mod fn : Str) : List Nat → Option Nat
 | [] => none
 | m :: l => match findF M mod fn m (funcsK M m) with | some f => some f | none => findM M mod fn l
def funcK (M : Nat → Option Node) (mod fn : Str) : Nat := (findM M mod fn (modsK M)).getD 0
def mainK (M : Nat → Option Node) : Nat := match M (funcK M wMain wMain) with
 | none => 0
 | some n => if n.type = 1 ∧ (kidsK M (funcK M wMain wMain) 4).length = 0 then funcK M wMain wMain else 0
theorem findF_mem {M : Nat → Option Node} {mod fn : Str} {m f : Nat} {l : List Nat} (h : findF M mod fn m l = some f) : f ∈ l := List.mem_of_find?_eq_some h
theorem findM_lt {M : Nat → Option Node} (hk : KB M) {mod fn : Str} {f : Nat} : ∀ {l : List Nat}, findM M mod fn l = some f → f < 18446744073709551616
 | [], h => by cases h
 | m :: l, h => by
   rw [findM] at h
   cases hf : findF M mod fn m (funcsK M m) with
   | some g =>
     rw [hf] at h
     have h : some g = some f := h
     injection h with h
     subst h
     exact hk.kids m 3 _ (findF_mem hf)
   | none => rw [hf] at h; exact findM_lt hk h
theorem funcK_lt {M : Nat → Option Node} (hk : KB M) (mod fn : Str) : funcK M mod fn < 18446744073709551616 := by
 unfold funcK
 cases h : findM M mod fn (modsK M) with
 | none => decide
 | some f => exact findM_lt hk h
end Hg
namespace Go.Proofs.YtbjecnbcoadfbaaGreatDoor
open Go.RowKit
open Hg (GT gl wk isK ndAt kidsK modsK funcsK KB nameK typeK namesW findF findM funcK mainK wMain)
set_option maxHeartbeats 4000000 in
set_option maxRecDepth 100000 in
theorem func_any (ab : Nat) (M : Nat → Option Hg.Node) (mod fn : List UInt8) (w : World) (hA : ArOk w ab M) :
 Calls Tryz.prog 18 #[.pointer (some ⟨ab, 0, none⟩), strV mod, strV fn] w fun e w' => e = .returned (idV (funcK M mod fn)) ∧ Below w.heap.size w w' := by
 have T1 := Lib.hid (modules_any ab M w hA)
 have HA := Lib.hid hA
 have hml := hA.lenK 1 2
 have hmm := hA.2.kids 1 2
 have HMM := Lib.hid hmm
 generalize hR : findM M mod fn (modsK M) = R
 have HR0 := Lib.hid hR
 have HFK := Lib.hid (show funcK M mod fn = R.getD 0 from by unfold funcK; rw [hR])
 clear hA hmm hR
 go_enter Tryz.func18, Tryz.ntmps18
 go_wp2_with fail
 refine T1.out.mono ?_
 rintro e w1 ⟨⟨v, rfl, ho1⟩, hb1⟩
 obtain ⟨a, c, rfl⟩ := (Sl.of_own ho1).form
 have HS := Lib.hid (Sl.of_own ho1)
 have HB1 := Lib.hid hb1
 have HA1 := Lib.hid (HA.out.below hb1)
 change (modsK M).length ≤ 1000000 at hml
 clear ho1 hb1 T1
 go_wp2
 go_loopw [14] (fun p wr => ∃ i : Nat, p = .int .i64 (i : Int) ∧ i ≤ (modsK M).length ∧ Below w1.heap.size w1 wr ∧ findM M mod fn ((modsK M).drop i) = R) (fun p wr => (modsK M).length - (intOf p).toNat)
 case atStart => exact ⟨0, rfl, Nat.zero_le _, Below.refl _ _, HR0.out⟩
 case round =>
  obtain ⟨i, rfl, hi, hb, hR⟩ := hrel
  have HB := Lib.hid hb
  clear hb
  by_cases hlt : i < (modsK M).length
  ·
   obtain ⟨b, o, rfl, _, kc⟩ := (HS.out.below HB.out (Nat.le_refl _)).mapAt hlt
   have hmi := HMM.out _ (List.getElem_mem hlt)
   rw [List.drop_eq_getElem_cons hlt, findM] at hR
   generalize (modsK M)[i] = m at kc hmi hR
   have T2 := Lib.hid (funcs_any ab M m wr (HA1.out.below HB.out) hmi)
   have hfl := (HA1.out.below HB.out).lenK m 3
   have HFM := Lib.hid (HA.out.2.kids m 3)
   have HR := Lib.hid hR
   change (funcsK M m).length ≤ 1000000 at hfl
   clear hR
   go_wp2_with fail
   refine T2.out.mono ?_
   rintro e w2 ⟨⟨v2, rfl, ho2⟩, hb2⟩
   obtain ⟨a2, c2, rfl⟩ := (Sl.of_own ho2).form
   have HS2 := Lib.hid (Sl.of_own ho2)
   have HB2 := Lib.hid (HB.out.trans (hb2.mono HB.out.size))
   clear ho2 hb2 T2
   generalize hR2 : findF M mod fn m (funcsK M m) = R2 at HR
   have HR2 := Lib.hid hR2
   clear hR2
   go_wp2
   go_loopw [22] (fun p wr => ∃ j : Nat, p = .int .i64 (j : Int) ∧ j ≤ (funcsK M m).length ∧ Below w2.heap.size w2 wr ∧ findF M mod fn m ((funcsK M m).drop j) = R2) (fun p wr => (funcsK M m).length - (intOf p).toNat)
   case atStart => exact ⟨0, rfl, Nat.zero_le _, Below.refl _ _, HR2.out⟩
   case round =>
    obtain ⟨j, rfl, hj, hb3, hr2⟩ := hrel
    have HB3 := Lib.hid hb3
    have HB3' := Lib.hid (HB2.out.trans (hb3.mono HB2.out.size))
    clear hb3
    by_cases hltj : j < (funcsK M m).length
    ·
     obtain ⟨b2, o2, rfl, _, kc2⟩ := (HS2.out.below HB3.out (Nat.le_refl _)).mapAt hltj
     have hfj := HFM.out _ (List.getElem_mem hltj)
     rw [List.drop_eq_getElem_cons hltj] at hr2
     unfold findF at hr2
     rw [List.find?_cons] at hr2
     generalize (funcsK M m)[j] = f at kc2 hfj hr2
     have TN := Lib.hid (kname_any ab M m wr (HA1.out.below HB3'.out) hmi)
     replace hr2 : (match nameK M m == mod && nameK M f == fn with | true => some f | false => findF M mod fn m ((funcsK M m).drop (j + 1))) = R2 := hr2
     have HR3 := Lib.hid hr2
     clear hr2
     generalize hnm : nameK M m = nm at TN HR3
     have HNM := Lib.hid hnm
     clear hnm
     by_cases hm : nm = mod
     ·
      subst hm
      go_wp2_with fail
      refine TN.out.mono ?_
      rintro e w3 ⟨rfl, hb3⟩
      have HB4 := Lib.hid (HB3'.out.trans (hb3.mono HB3'.out.size))
      have HB5 := Lib.hid (HB3.out.trans (hb3.mono HB3.out.size))
      have TF := Lib.hid (kname_any ab M f w3 (HA1.out.below HB4.out) hfj)
      generalize hnf : nameK M f = nf at TF HR3
      have HNF := Lib.hid hnf
      clear hb3 TN hnf
      by_cases hf : nf = fn
      ·
       subst hf
       have hr3 := HR3.out
       simp only [beq_self_eq_true, Bool.and_self] at hr3
       go_wp2_with fail
       refine TF.out.mono ?_
       rintro e w4 ⟨rfl, hb4⟩
       have HB6 := Lib.hid (HB1.out.trans ((HB4.out.trans (hb4.mono HB4.out.size)).mono HB1.out.size))
       clear hb4 TF
       subst hr3
       have hR := HR.out
       have hR : some f = R := hR
       subst hR
       go_wp2
       go_ret
       rw [HFK.out]
       exact ⟨rfl, HB6.out⟩
      ·
       have hr3 := HR3.out
       have hbf : (nf == fn) = false := by simpa using hf
       rw [hbf, Bool.and_false] at hr3
       have HR5 := Lib.hid hr3
       clear hr3
       go_wp2_with fail
       refine TF.out.mono ?_
       rintro e w4 ⟨rfl, hb4⟩
       have HB7 := Lib.hid (HB5.out.trans (hb4.mono HB5.out.size))
       clear hb4 TF
       go_wp2
       go_roundw
       case rel => exact ⟨j + 1, by go_num, by omega, HB7.out, HR5.out⟩
       case measure => simp [intOf]; omega
     ·
      have hr3 := HR3.out
      have hbf : (nm == mod) = false := by simpa using hm
      rw [hbf, Bool.false_and] at hr3
      have HR5 := Lib.hid hr3
      clear hr3
      go_wp2_with fail
      refine TN.out.mono ?_
      rintro e w3 ⟨rfl, hb3⟩
      have HB5 := Lib.hid (HB3.out.trans (hb3.mono HB3.out.size))
      clear hb3 TN
      go_wp2
      go_roundw
      case rel => exact ⟨j + 1, by go_num, by omega, HB5.out, HR5.out⟩
      case measure => simp [intOf]; omega
    ·
     obtain rfl : j = (funcsK M m).length := by omega
     rw [List.drop_length] at hr2
     have hr2 : none = R2 := hr2
     subst hr2
     have HR4 := Lib.hid (show findM M mod fn ((modsK M).drop (i + 1)) = R from HR.out)
     go_wp2
     go_roundw
     case rel => exact ⟨i + 1, by go_num, by omega, HB3'.out, HR4.out⟩
     case measure => simp [intOf]; omega
  ·
   obtain rfl : i = (modsK M).length := by omega
   rw [List.drop_length] at hR
   have hR : none = R := hR
   subst hR
   go_wp2
   go_ret
   rw [HFK.out]
   exact ⟨rfl, HB1.out.trans (HB.out.mono HB1.out.size)⟩
set_option maxHeartbeats 4000000 in
set_option maxRecDepth 100000 in
theorem main_any (ab : Nat) (M : Nat → Option Hg.Node) (w : World) (hA : ArOk w ab M) :
 Calls Tryz.prog 7 #[.pointer (some ⟨ab, 0, none⟩)] w fun e w' => e = .returned (idV (mainK M)) ∧ Below w.heap.size w w' := by
 have T1 := Lib.hid (func_any ab M wMain wMain w hA)
 have HA := Lib.hid hA
 generalize hr : mainK M = r
 unfold mainK at hr
 have hfl := Hg.funcK_lt hA.2 wMain wMain
 generalize hf : funcK M wMain wMain = f at hr hfl T1
 clear hA hf
 have hget : ∀ W, ArOk W ab M → ∀ o, M f = o → Calls Tryz.prog 19 #[.pointer (some ⟨ab, 0, none⟩), .int .u64 (f : Int)] W (GetResO W o) := fun W h o e => e ▸ h.get hfl
 cases hM : M f with
 | none =>
   rw [hM] at hr
   have hr : 0 = r := hr
   subst hr
   go_enter Tryz.func7, Tryz.ntmps7
   go_wp2_with fail
   refine T1.out.mono ?_
   rintro e w1 ⟨rfl, hb1⟩
   have TG := Lib.hid (hget w1 (HA.out.below hb1) none hM)
   have HB1 := Lib.hid hb1
   clear T1 hb1
   go_wp2_with fail
   refine TG.out.mono ?_
   rintro e w2 ⟨ka, kc, rfl, ho, hb2⟩
   have HB2 := Lib.hid (HB1.out.trans (hb2.mono HB1.out.size))
   clear TG ho hb2
   go_wp2
   go_ret
   exact ⟨rfl, HB2.out.alloc HB2.out.size _⟩
 | some nd =>
   rw [hM] at hr
   have hr : (if nd.type = 1 ∧ (kidsK M f 4).length = 0 then f else 0) = r := hr
   have HR := Lib.hid hr
   clear hr
   go_enter Tryz.func7, Tryz.ntmps7
   go_wp2_with fail
   refine T1.out.mono ?_
   rintro e w1 ⟨rfl, hb1⟩
   have TG := Lib.hid (hget w1 (HA.out.below hb1) (some nd) hM)
   have HB1 := Lib.hid hb1
   clear T1 hb1
   go_wp2_with fail
   refine TG.out.mono ?_
   rintro e w2 ⟨ka, kc, rfl, ho, hb2⟩
   have HB2 := Lib.hid (HB1.out.trans (hb2.mono HB1.out.size))
   have hb3 := HB2.out.alloc HB2.out.size (.cells (ndCells nd ka kc) 55)
   have HB3 := Lib.hid hb3
   have TK := Lib.hid (kids_any ab M f 4 _ (HA.out.below hb3) hfl)
   clear TG ho hb2 hb3
   by_cases ht : nd.type = 1
   ·
    have hq : ((nd.type : Int) != 1) = false := by simp [ht]
    have hq2 : ((nd.type : Int) == 1) = true := by simp [ht]
    rw [ht] at HR
    clear ht
    go_wp2_with fail
    refine TK.out.mono ?_
    rintro e w4 ⟨⟨v, rfl, ho4⟩, hb4⟩
    obtain ⟨a4, c4, rfl⟩ := (Sl.of_own ho4).form
    have HB4 := Lib.hid (HB3.out.trans (hb4.mono HB3.out.size))
    have hr := HR.out
    simp only [true_and] at hr
    clear TK ho4 hb4
    by_cases hk : (kidsK M f 4).length = 0
    ·
     rw [if_pos hk] at hr
     subst hr
     generalize (kidsK M f 4).length = n at hk ⊢
     subst hk
     go_wp2
     go_ret
     exact ⟨rfl, HB4.out⟩
    ·
     rw [if_neg hk] at hr
     subst hr
     generalize (kidsK M f 4).length = n at hk ⊢
     have hk2 : 0 < n := by omega
     go_wp2
     go_ret
     exact ⟨rfl, HB4.out⟩
   ·
    have hq : ((nd.type : Int) != 1) = true := by simp; omega
    have hq2 : ((nd.type : Int) == 1) = false := by simp; omega
    have hr := HR.out
    rw [if_neg (fun h => ht h.1)] at hr
    subst hr
    clear ht TK
    go_wp2
    go_ret
    exact ⟨rfl, HB3.out⟩
end Go.Proofs.YtbjecnbcoadfbaaGreatDoor
namespace Hg
def seenP (M : Nat → Option Node) (n : Node) (x : Nat) : Bool := (decide (n.kind = 5) && decide ((ndAt M x).kind = 6)) || (decide (n.kind = 3) && decide ((ndAt M x).kind = 4))
def seenL (M : Nat → Option Node) (n : Node) (k : Nat) : List Nat := (n.kids.take k).filter (seenP M n)
def seenK (M : Nat → Option Node) (par : Nat → Nat × Int) : Nat → Nat → List Nat → List Nat → Option (List Nat)
 | 0, _, _, _ => none
 | f + 1, id, seen, out => if id ∈ seen then some out else match M (par id).1 with
   | none => some out
   | some n => seenK M par f (par id).1 (id :: seen) (seenL M n (par id).2.toNat ++ out)
end Hg
namespace Go.Proofs.YtbjecnbcoadfbaaGreatDoor
open Go.RowKit
open Hg (GT gl wk isK ndAt kidsK KB seenP seenL seenK)
structure ParOk (M : Nat → Option Hg.Node) (par : Nat → Nat × Int) : Prop where
 zero : M 0 = none
 par : ∀ id, ParIn M id (fun i => i < idTop) (par id).1 (par id).2
theorem ParOk.call {M : Nat → Option Hg.Node} {par : Nat → Nat × Int} (h : ParOk M par) {w : World} {ab : Nat} (hA : ArOk w ab M) (id : Nat) :
 Calls Tryz.prog 76 #[.pointer (some ⟨ab, 0, none⟩), .int .u64 (id : Int)] w fun e w' => e = .returned (.tuple #[.int .u64 ((par id).1 : Int), .int .i64 (par id).2]) ∧ (par id).1 < idTop ∧ Below w.heap.size w w' := by
 obtain ⟨⟨mb, c, hAr⟩, _⟩ := hA
 refine (arparent_any ab mb c M id w hAr h.zero).mono ?_
 rintro e w' ⟨p, k, hp, hlt, rfl, hb⟩
 obtain ⟨e1, e2⟩ := hp.unique (h.par id)
 subst e1
 subst e2
 exact ⟨rfl, hlt, hb⟩
theorem idxI_lt (l : List Nat) (id k : Nat) (h : idxI l id = (k : Int)) : k < l.length := by
 unfold idxI at h
 cases hf : l.findIdx? (· == id) with
 | none => rw [hf] at h; simp at h
 | some j =>
   rw [hf] at h
   have h : (j : Int) = (k : Int) := h
   have h2 := (List.findIdx?_eq_some_iff_getElem.1 hf).1
   omega
structure SnSt (M : Nat → Option Hg.Node) (par : Nat → Nat × Int) (F sb : Nat) (R : List Nat) (w : World) (f : Nat) (v : Value) (id : Nat) (wr : World) (seen out : List Nat) : Prop where
 own : wr.ownsRow w.heap.size 31 1 v out.length (out.map idV)
 mp : IMap wr sb (seenM seen)
 bel : Below w.heap.size w wr
 sl : w.heap.size ≤ sb
 run : seenK M par f id seen out = some R
 cnt : seen.length + f ≤ F
 out : out.length ≤ seen.length * 1000000
 lt : id < idTop
set_option maxHeartbeats 8000000 in
set_option maxRecDepth 100000 in
theorem seen_any (ab : Nat) (M : Nat → Option Hg.Node) (par : Nat → Nat × Int) (hp : ParOk M par) (id F : Nat) (R : List Nat) (w : World) (hA : ArOk w ab M) (hid : id < idTop) (hR : seenK M par F id [] [] = some R) (hF : F ≤ 1000000) :
 Calls Tryz.prog 42 #[.pointer (some ⟨ab, 0, none⟩), idV id] w (RowRes w R) := by
 obtain ⟨j0, hj, hj0, hj1, hj2⟩ := info_parts idInfo30
 have hzb : ∀ W : World, (zeroValue 4).run Tryz.prog W = .ok (.bool false) W := fun W => by kernel_rfl
 have hmm := @run_makeMap Tryz.prog
 have HA := Lib.hid hA
 have HP := Lib.hid hp
 have HST := Lib.hid (show SnSt M par F w.heap.size R w F (.slice none 0 0) id (w.alloc (.map #[] 0)) [] [] from ⟨⟨rfl, .inl ⟨rfl, rfl⟩⟩, XMap.made 31 idV w, (Below.refl _ _).alloc (Nat.le_refl _) _, Nat.le_refl _, hR, by simp, by simp, hid⟩)
 clear hA hp hR hid
 go_enter Tryz.func42, Tryz.ntmps42
 go_wp2
 generalize World.alloc w _ = W1 at HST ⊢
 go_loopw [5, 7] (fun p q wr => ∃ (v : Value) (id : Nat), p = v ∧ q = idV id ∧ ∃ f seen out, SnSt M par F w.heap.size R w f v id wr seen out) (fun p q wr => Hg.least (fun f => ∃ id seen out, q = idV id ∧ SnSt M par F w.heap.size R w f p id wr seen out))
 case atStart => exact ⟨_, id, rfl, rfl, F, [], [], HST.out⟩
 case round =>
  obtain ⟨v, id, hv, rfl, hrel⟩ := hrel
  have hv := hv.symm
  subst hv
  have hl := Hg.least_spec (p := fun f => ∃ id2 seen out, idV id = idV id2 ∧ SnSt M par F w.heap.size R w f v id2 wr seen out) (by
   obtain ⟨f, seen, out, h⟩ := hrel
   exact ⟨f, id, seen, out, rfl, h⟩)
  generalize hf0 : Hg.least _ = f at hl
  have HF0 := Lib.hid hf0
  obtain ⟨id2, seen, out, hid2, hS⟩ := hl
  have hid2 : id = id2 := by injection hid2 with _ h; exact Int.ofNat.inj h
  subst hid2
  have HS := Lib.hid hS
  have hlk := (hS.mp.look (t := 114) (x := id) keyedId Tryz.underlying114 (hzb _) ⟨_, keyOf_id hS.lt⟩)
  unfold seenM at hlk
  rw [Hg.gl_key] at hlk
  clear hf0 hrel HST hv
  cases f with
  | zero => have := hS.run; cases this
  | succ f =>
  by_cases hin : id ∈ seen
  ·
   rw [if_pos hin] at hlk
   replace hlk : (Instr.lookup 114 (.map (some w.heap.size)) (.int .u64 (id : Int)) false).run Tryz.prog wr = .ok (.bool true) wr := hlk
   have hrun := hS.run
   rw [seenK, if_pos hin] at hrun
   have hrun : out = R := Option.some.inj hrun
   clear hS
   go_wp2
   go_ret
   exact ⟨⟨_, rfl, hrun ▸ HS.out.own⟩, HS.out.bel⟩
  ·
   rw [if_neg hin] at hlk
   replace hlk : (Instr.lookup 114 (.map (some w.heap.size)) (.int .u64 (id : Int)) false).run Tryz.prog wr = .ok (.bool false) wr := hlk
   have hrun := hS.run
   rw [seenK, if_neg hin] at hrun
   obtain ⟨W2, hrun2, hU2, hg2⟩ := hS.mp.put (t := 114) keyedId Tryz.underlying114 (fun x y h => by injection h with _ h; exact Int.ofNat.inj h) (by have := hS.cnt; unfold seenM; simp; omega) id ⟨_, keyOf_id hS.lt⟩ (.bool true)
   replace hrun2 : (Instr.mapUpdate 114 (.map (some w.heap.size)) (.int .u64 (id : Int)) (.bool true)).run Tryz.prog wr = .ok () W2 := hrun2
   have hf2 : Fr (fun q => q = w.heap.size) wr W2 := Fr.of_grown hg2 (fun q e => by injection e with e; exact e.symm)
   have HO2 := Lib.hid (show W2.ownsRow w.heap.size 31 1 v out.length (out.map idV) from ownsRow_fr hS.own hf2 (fun q e e' => by
    obtain ⟨es, ck, hm⟩ := hS.mp.obj
    rcases own_not_map hS.own hm with h | h
    ·
     rw [h] at e; cases e
    ·
     exact h (e' ▸ e)))
   have hb2 : Below w.heap.size w W2 := hS.bel.trans ((hf2.imp (D' := fun q => w.heap.size ≤ q) (fun q _ e => by omega)).below' hS.bel.size)
   have HB2 := Lib.hid hb2
   have HU2 := Lib.hid (show IMap W2 w.heap.size (seenM (id :: seen)) from hU2)
   have TP := Lib.hid (HP.out.call (HA.out.below hb2) id)
   have hpar := HP.out.par id
   generalize par id = pk at TP hrun hpar
   obtain ⟨p, k⟩ := pk
   dsimp only at TP hrun hpar
   have hcn := hS.cnt
   have hol := hS.out
   clear hS hU2 hg2 hf2 hb2
   go_wp2_with fail
   refine TP.out.mono ?_
   rintro e W3 ⟨rfl, hpl, hb3⟩
   have HB3 := Lib.hid (HB2.out.trans (hb3.mono HB2.out.size))
   have HO3 := Lib.hid (ownsRow_fr HO2.out (Fr.of_below (D := fun _ => False) hb3) (fun _ _ e => e))
   have HU3 := Lib.hid (HU2.out.fr (Fr.of_below (D := fun _ => False) hb3) (fun e => e))
   have hget : ∀ o, M p = o → Calls Tryz.prog 19 #[.pointer (some ⟨ab, 0, none⟩), .int .u64 (p : Int)] W3 (GetResO W3 o) := fun o e => e ▸ (HA.out.below HB3.out).get hpl
   clear TP hb3 hlk hrun2
   cases hM : M p with
   | none =>
     rw [hM] at hrun
     have hrun : out = R := Option.some.inj hrun
     have TG := Lib.hid (hget none hM)
     clear hget
     go_wp2_with fail
     refine TG.out.mono ?_
     rintro e W4 ⟨ka, kc, rfl, ho4, hb4⟩
     have HB4 := Lib.hid (HB3.out.trans (hb4.mono HB3.out.size))
     have HO4 := Lib.hid (ownsRow_fr HO3.out (Fr.of_below (D := fun _ => False) hb4) (fun _ _ e => e))
     clear TG ho4 hb4
     go_wp2
     go_ret
     exact ⟨⟨_, rfl, hrun ▸ HO4.out.alloc _⟩, HB4.out.alloc HB4.out.size _⟩
   | some n =>
     rw [hM] at hrun
     dsimp only at hrun
     have hk0 : 0 ≤ k ∧ idxI n.kids id = k := by
      rcases hpar with ⟨h1, h2, h3⟩ | ⟨h1, h2, ⟨nd, hn, h3, h4⟩, h5⟩
      ·
       rw [h1, HP.out.zero] at hM; cases hM
      ·
       rw [hM] at hn; injection hn with hn; subst hn; exact ⟨h4, h3⟩
     obtain ⟨kn, rfl⟩ : ∃ kn : Nat, k = (kn : Int) := ⟨k.toNat, by omega⟩
     have hkl : kn < n.kids.length := idxI_lt n.kids id kn hk0.2
     have hnl : n.kids.length ≤ 1000000 := by have := (HA.out.below HB3.out).len p; unfold ndAt at this; rw [hM] at this; exact this
     have hnk := HA.out.2 p n hM
     have TG := Lib.hid (hget (some n) hM)
     have hrun : seenK M par f p (id :: seen) (seenL M n kn ++ out) = some R := hrun
     have HRUN := Lib.hid hrun
     have HNK := Lib.hid hnk
     clear hget hpar hk0 hrun hnk
     go_wp2_with fail
     refine TG.out.mono ?_
     rintro e W4 ⟨ka, kc, rfl, ho4, hb4⟩
     have HB4 := Lib.hid (HB3.out.trans (hb4.mono HB3.out.size))
     obtain ⟨g, rfl⟩ : ∃ g, ka = some ⟨g, 0, none⟩ := by
      rcases ho4.2 with ⟨h1, h2⟩ | ⟨g, cap, cur, hv, _⟩
      ·
       have h2 : n.kids.length = 0 := h2
       omega
      ·
       injection hv with e1; exact ⟨g, e1⟩
     have hcap : n.kids.length ≤ kc := (by obtain ⟨c9, e, h, _⟩ := own_form ho4 rfl; injection e with _ _ e; have h : n.kids.length ≤ c9 := h; omega)
     have hcap2 : kn ≤ kc := by omega
     have hW5 : Below W4.heap.size W4 (W4.alloc (.cells (ndCells n (some ⟨g, 0, none⟩) kc) 55)) := (Below.refl _ _).alloc (Nat.le_refl _) _
     have hnew := heap_alloc_new W4 (.cells (ndCells n (some ⟨g, 0, none⟩) kc) 55)
     have HB5 := Lib.hid (HB4.out.alloc HB4.out.size (.cells (ndCells n (some ⟨g, 0, none⟩) kc) 55))
     have HO5 := Lib.hid ((ownsRow_fr HO3.out (Fr.of_below (D := fun _ => False) hb4) (fun _ _ e => e)).alloc (.cells (ndCells n (some ⟨g, 0, none⟩) kc) 55))
     have HU5 := Lib.hid ((HU3.out.fr (Fr.of_below (D := fun _ => False) hb4) (fun e => e)).fr (Fr.of_below (D := fun _ => False) hW5) (fun e => e))
     have HS5 := Lib.hid (Sl.of_own (ownsRow_take (ho4.alloc (.cells (ndCells n (some ⟨g, 0, none⟩) kc) 55)) (show kn ≤ n.kids.length by omega)))
     have hks : IntKind.i64.wrap (kn : Int) = (kn : Int) := IntWalk.i64_in _ (by omega)
     clear TG ho4 hb4 hW5
     go_wp2
     obtain ⟨W5, hW5⟩ : ∃ W5, W4.alloc (.cells (ndCells n (some ⟨g, 0, none⟩) kc) 55) = W5 := ⟨_, rfl⟩
     have hz5 : W4.heap.size < W5.heap.size := by rw [← hW5]; simp
     simp only [ndCells] at HB5 HO5 HU5 HS5 hnew hW5
     rw [hW5] at HB5 HO5 HU5 HS5 hnew ⊢
     generalize hnb : W4.heap.size = nbk at hnew hz5 ⊢
     clear hnb hW5
     have HNW := Lib.hid hnew
     clear hnew
     rw [← List.map_take] at HS5
     go_loopw [12, 44] (fun p q wr => ∃ (i : Nat) (u : Value), p = u ∧ q = .int .i64 (i : Int) ∧ i ≤ kn ∧ wr.ownsRow W5.heap.size 31 1 u (((n.kids.take kn).take i).filter (seenP M n)).length ((((n.kids.take kn).take i).filter (seenP M n)).map idV) ∧ Below W5.heap.size W5 wr) (fun _ q wr => kn - (intOf q).toNat)
     case atStart => exact ⟨0, _, rfl, rfl, Nat.zero_le _, ⟨rfl, .inl ⟨rfl, rfl⟩⟩, Below.refl _ _⟩
     case round =>
      obtain ⟨i, u, hu, rfl, hi, hou, hb6⟩ := hrel
      have hu := hu.symm
      subst hu
      have HOU := Lib.hid hou
      have HB6 := Lib.hid hb6
      have hlk : (n.kids.take kn).length = kn := by rw [List.length_take]; omega
      by_cases hlt : i < kn
      ·
       obtain ⟨b, o, hbo, _, kcl⟩ := (show Sl W5 W5.heap.size (.slice (some ⟨g, 0, none⟩) kn kc) (n.kids.take kn).length ((n.kids.take kn).map idV) from by rw [hlk]; exact HS5.out).below HB6.out (Nat.le_refl _) |>.mapAt (show i < (n.kids.take kn).length by omega)
       injection hbo with hbo
       injection hbo with hbo1 hbo2
       subst hbo1
       subst hbo2
       rw [Nat.zero_add] at kcl
       have hxm : (n.kids.take kn)[i] ∈ n.kids := List.mem_of_mem_take (List.getElem_mem _)
       have htk : (n.kids.take kn).take (i + 1) = (n.kids.take kn).take i ++ [(n.kids.take kn)[i]] := List.take_succ_eq_append_getElem (by omega)
       generalize (n.kids.take kn)[i] = x at kcl hxm htk
       have hxl := HNK.out x hxm
       have HTK := Lib.hid htk
       have TGx := Lib.hid ((HA.out.below (HB5.out.trans (hb6.mono HB5.out.size))).getN hxl)
       have hnwr : wr.heap[nbk]? = some (.cells (ndCells n (some ⟨g, 0, none⟩) kc) 55 (0, 0)) := (hb6.block nbk hz5).trans HNW.out
       have e0 := cell_of_row wr nbk 0 _ _ (0, 0) hnwr
       simp at e0
       clear hou hb6 htk hxm
       go_wp2_with fail
       refine TGx.out.mono ?_
       rintro e w2 ⟨kax, kcx, rfl, hox, hbx⟩
       have HB8 := Lib.hid (HB6.out.trans (hbx.mono HB6.out.size))
       have HOU := Lib.hid (ownsRow_fr HOU.out (Fr.of_below (D := fun _ => False) hbx) (fun _ _ e => e))
       have hnw2 : w2.heap[nbk]? = some (.cells (ndCells n (some ⟨g, 0, none⟩) kc) 55 (0, 0)) := (HB8.out.block nbk hz5).trans HNW.out
       have d0 := cell_of_row w2 nbk 0 _ _ (0, 0) hnw2
       simp at d0
       have hz8 := HB8.out.size
       have hnl2 : nbk < w2.heap.size := (Array.getElem?_eq_some_iff.1 hnw2).1
       have hPX : seenP M n x = ((decide (n.kind = 5) && decide ((ndAt M x).kind = 6)) || (decide (n.kind = 3) && decide ((ndAt M x).kind = 4))) := rfl
       generalize ndAt M x = m at hPX
       generalize hps : seenP M n x = ps at hPX
       have HPX := Lib.hid hps
       have hfl : (((n.kids.take kn).take i).filter (seenP M n)).length ≤ 1000000 := by
        have h1 := List.length_filter_le (seenP M n) ((n.kids.take kn).take i)
        have h2 : ((n.kids.take kn).take i).length ≤ kn := by simp; omega
        omega
       clear TGx hox hbx hnwr e0 hnw2 hps
       by_cases n5 : n.kind = 5
       ·
        have q5 : ((n.kind : Int) == 5) = true := by simp [n5]
        have q3 : ((n.kind : Int) == 3) = false := by simp [n5]
        by_cases m6 : m.kind = 6
        ·
         have q6 : ((m.kind : Int) == 6) = true := by simp [m6]
         have hp2 : ps = true := by rw [hPX]; simp [n5, m6]
         subst hp2
         clear hPX n5 m6
         go_wp2_with (at_builtin; refine wpList_append_own_at _ rfl (.tmp 72) (.tmp 74) _ rfl W5.heap.size 31 j0 _ 1 8 Tryz.underlying53 hj hj0 hj1 hj2 rfl (by decide) _ (((n.kids.take kn).take i).filter (seenP M n)).length ((((n.kids.take kn).take i).filter (seenP M n)).map idV) rfl ((HOU.out.alloc _).alloc _) ⟨w2.heap.size + 1, 0, none⟩ 1 1 [idV x] rfl rfl ?_ ?_ ?_ ?_ ?_ ?_)
         all_goals first
          | intro v3 W3' own3 g3 _ at3
          | exact cells_new2 _ _ _ _
          | (unfold maxLen; omega)
          | omega
          | (simp; omega)
          | (intro u hu; simp only [List.mem_singleton] at hu; subst hu; rfl)
         have HOU3 := Lib.hid (show W3'.ownsRow W5.heap.size 31 1 v3 (((n.kids.take kn).take (i + 1)).filter (seenP M n)).length ((((n.kids.take kn).take (i + 1)).filter (seenP M n)).map idV) from by
          rw [HTK.out, List.filter_append]
          simp only [List.filter_cons, HPX.out, if_true, List.filter_nil]
          rw [List.map_append, List.length_append]
          exact own3)
         have HB9 := Lib.hid (((HB8.out.alloc HB8.out.size _).alloc (by have := HB8.out.size; simp; omega) _).grown g3 (by have := HB8.out.size; simp; omega) (fun q hq => (HOU.out.lt q hq).1))
         clear own3 g3 at3
         go_wp2
         go_roundw
         case rel => exact ⟨i + 1, v3, rfl, by go_num, by omega, HOU3.out, HB9.out⟩
         case measure => simp [intOf]; omega
        ·
         have q6 : ((m.kind : Int) == 6) = false := by simp; omega
         have hp2 : ps = false := by rw [hPX]; simp [n5, m6]
         subst hp2
         clear hPX n5 m6
         have HOU3 := Lib.hid (show w2.ownsRow W5.heap.size 31 1 u (((n.kids.take kn).take (i + 1)).filter (seenP M n)).length ((((n.kids.take kn).take (i + 1)).filter (seenP M n)).map idV) from by
          rw [HTK.out, List.filter_append]
          simp only [List.filter_cons, HPX.out, if_false, List.filter_nil, List.append_nil, Bool.false_eq_true]
          exact HOU.out)
         go_wp2
         go_roundw
         case rel => exact ⟨i + 1, u, rfl, by go_num, by omega, HOU3.out.alloc _, HB8.out.alloc HB8.out.size _⟩
         case measure => simp [intOf]; omega
       ·
        have q5 : ((n.kind : Int) == 5) = false := by simp; omega
        by_cases n3 : n.kind = 3
        ·
         have q3 : ((n.kind : Int) == 3) = true := by simp [n3]
         by_cases m4 : m.kind = 4
         ·
          have q4 : ((m.kind : Int) == 4) = true := by simp [m4]
          have hp2 : ps = true := by rw [hPX]; simp [n3, m4]
          subst hp2
          clear hPX n5 n3 m4
          go_wp2_with (at_builtin; refine wpList_append_own_at _ rfl (.tmp 72) (.tmp 74) _ rfl W5.heap.size 31 j0 _ 1 8 Tryz.underlying53 hj hj0 hj1 hj2 rfl (by decide) _ (((n.kids.take kn).take i).filter (seenP M n)).length ((((n.kids.take kn).take i).filter (seenP M n)).map idV) rfl ((HOU.out.alloc _).alloc _) ⟨w2.heap.size + 1, 0, none⟩ 1 1 [idV x] rfl rfl ?_ ?_ ?_ ?_ ?_ ?_)
          all_goals first
           | intro v3 W3' own3 g3 _ at3
           | exact cells_new2 _ _ _ _
           | (unfold maxLen; omega)
           | omega
           | (simp; omega)
           | (intro u hu; simp only [List.mem_singleton] at hu; subst hu; rfl)
          have HOU3 := Lib.hid (show W3'.ownsRow W5.heap.size 31 1 v3 (((n.kids.take kn).take (i + 1)).filter (seenP M n)).length ((((n.kids.take kn).take (i + 1)).filter (seenP M n)).map idV) from by
           rw [HTK.out, List.filter_append]
           simp only [List.filter_cons, HPX.out, if_true, List.filter_nil]
           rw [List.map_append, List.length_append]
           exact own3)
          have HB9 := Lib.hid (((HB8.out.alloc HB8.out.size _).alloc (by have := HB8.out.size; simp; omega) _).grown g3 (by have := HB8.out.size; simp; omega) (fun q hq => (HOU.out.lt q hq).1))
          clear own3 g3 at3
          go_wp2
          go_roundw
          case rel => exact ⟨i + 1, v3, rfl, by go_num, by omega, HOU3.out, HB9.out⟩
          case measure => simp [intOf]; omega
         ·
          have q4 : ((m.kind : Int) == 4) = false := by simp; omega
          have hp2 : ps = false := by rw [hPX]; simp [n3, m4]
          subst hp2
          clear hPX n5 n3 m4
          have HOU3 := Lib.hid (show w2.ownsRow W5.heap.size 31 1 u (((n.kids.take kn).take (i + 1)).filter (seenP M n)).length ((((n.kids.take kn).take (i + 1)).filter (seenP M n)).map idV) from by
           rw [HTK.out, List.filter_append]
           simp only [List.filter_cons, HPX.out, if_false, List.filter_nil, List.append_nil, Bool.false_eq_true]
           exact HOU.out)
          go_wp2
          go_roundw
          case rel => exact ⟨i + 1, u, rfl, by go_num, by omega, HOU3.out.alloc _, HB8.out.alloc HB8.out.size _⟩
          case measure => simp [intOf]; omega
        ·
         have q3 : ((n.kind : Int) == 3) = false := by simp; omega
         have hp2 : ps = false := by rw [hPX]; simp [n5, n3]
         subst hp2
         clear hPX n5 n3
         have HOU3 := Lib.hid (show w2.ownsRow W5.heap.size 31 1 u (((n.kids.take kn).take (i + 1)).filter (seenP M n)).length ((((n.kids.take kn).take (i + 1)).filter (seenP M n)).map idV) from by
          rw [HTK.out, List.filter_append]
          simp only [List.filter_cons, HPX.out, if_false, List.filter_nil, List.append_nil, Bool.false_eq_true]
          exact HOU.out)
         go_wp2
         go_roundw
         case rel => exact ⟨i + 1, u, rfl, by go_num, by omega, HOU3.out.alloc _, HB8.out.alloc HB8.out.size _⟩
         case measure => simp [intOf]; omega
      ·
       obtain rfl : i = kn := by omega
       have hsl : (n.kids.take i).take i = n.kids.take i := List.take_of_length_le (by simp; omega)
       rw [hsl] at HOU
       have HB10 := Lib.hid (HB5.out.trans (hb6.mono HB5.out.size))
       have HO10 := Lib.hid (Sl.of_own (ownsRow_fr HO5.out (Fr.of_below (D := fun _ => False) hb6) (fun _ _ e => e)))
       have HU10 := Lib.hid (HU5.out.fr (Fr.of_below (D := fun _ => False) hb6) (fun e => e))
       have hfl : ((n.kids.take i).filter (seenP M n)).length ≤ 1000000 := by
        have h1 := List.length_filter_le (seenP M n) (n.kids.take i)
        have h2 : (n.kids.take i).length ≤ i := by simp; omega
        omega
       have hz6 := hb6.size
       have hwz : w.heap.size < W5.heap.size := by have := HU5.out.lt; omega
       clear hou hb6 hsl hlk
       go_wp2_with (at_builtin; refine wpList_append_sl _ rfl (.tmp 77) (.tmp 78) _ rfl W5.heap.size 31 j0 _ 8 Tryz.underlying53 hj hj0 hj1 hj2 rfl _ ((n.kids.take i).filter (seenP M n)).length (((n.kids.take i).filter (seenP M n)).map idV) rfl HOU.out wr.heap.size _ out.length (out.map idV) rfl HO10.out ?_ (ids_one _) ?_ ?_ ?_ ?_)
       all_goals first
        | intro v7 W7 own7 g7 at7
        | (simp; done)
        | (unfold maxLen; omega)
        | omega
       have HS7 := Lib.hid (show SnSt M par F w.heap.size R w f v7 p W7 (id :: seen) (seenL M n i ++ out) from by
        have hf7 : Fr (fun q => W5.heap.size ≤ q) _ W7 := Fr.of_grown g7 (fun q e => (HOU.out.lt q e).1)
        refine ⟨?_, HU10.out.fr hf7 (fun e => by omega), HB10.out.trans ((hf7.imp (D' := fun q => w.heap.size ≤ q) (fun q _ e => by omega)).below' HB10.out.size), Nat.le_refl _, HRUN.out, by simp; omega, ?_, hpl⟩
        ·
         rw [List.length_append, List.map_append]
         exact ownsRow_base own7 (by omega)
        ·
         rw [List.length_append, List.length_cons]
         unfold seenL
         omega)
       clear own7 g7 at7
       go_wp2
       go_roundw
       case rel => exact ⟨v7, p, rfl, rfl, f, _, _, HS7.out⟩
       case measure =>
        rw [HF0.out]
        refine Nat.lt_succ_of_le (Hg.least_le ?_)
        exact ⟨p, _, _, rfl, HS7.out⟩
end Go.Proofs.YtbjecnbcoadfbaaGreatDoor
namespace Go.Proofs.YtbjecnbcoadfbaaGreatDoor
open Go.RowKit
open Hg (GT gl wk isK ndAt kidsK KB seenP seenL seenK)
attribute [local go_sem] Oper.semAt_some
set_option maxHeartbeats 4000000 in
theorem contains_any (B : Nat) (v : Value) (ids : List Nat) (id : Nat) (w : World) (hs : Sl w B v ids.length (ids.map idV)) (hl : ids.length ≤ 1000000000000) (hl2 : ids.length ≤ 1000000) :
 Calls Tryz.prog 41 #[v, .int .u64 (id : Int)] w fun e w' => e = .returned (.bool (decide (0 ≤ idxI ids id))) ∧ w = w' := by
 have TI := Lib.hid (index_any B v ids id w hs hl2)
 clear hs
 go_enter Tryz.func41, Tryz.ntmps41
 go_wp2_with fail
 refine TI.out.mono ?_
 rintro e w1 ⟨rfl, rfl⟩
 clear TI
 go_wp2
 go_ret
 exact ⟨rfl, rfl⟩
theorem wp_calm {P : Program} {c : Code} {K : Act → World → Prop} {Q' : Exit → Act → World → Prop} {a : Act} {w : World} (h : c.wp P (Exit.then K (fun _ _ _ => False)) a w) : c.wp P (Exit.then K Q') a w :=
 wp_mono h (fun e a w h => by cases e <;> first | exact h | exact h.elim)
def BoxI (ab B : Nat) (S : Nat → Prop) (A : World) : Prop := A.heap[B]? = some (.cells #[.pointer (some ⟨ab, 0, none⟩)] 24 (0, 0)) ∧ (∃ r, A.heap[B + 1]? = some (.cells #[r] 4 (0, 0))) ∧ ∀ q, S q ↔ q = B ∨ q = B + 1
theorem BoxI.fr {ab B : Nat} {S : Nat → Prop} {A A' : World} (h : BoxI ab B S A) (hf : Fr (fun q => ¬ S q) A A') : BoxI ab B S A' := by
 obtain ⟨h1, ⟨r, h2⟩, h3⟩ := h
 exact ⟨hf.at_ h1 (fun h => h ((h3 B).2 (.inl rfl))), ⟨r, hf.at_ h2 (fun h => h ((h3 (B + 1)).2 (.inr rfl)))⟩, h3⟩
theorem BoxI.lt {ab B : Nat} {S : Nat → Prop} {A : World} (h : BoxI ab B S A) : ∀ q, S q → B ≤ q ∧ q < A.heap.size := by
 obtain ⟨h1, ⟨r, h2⟩, h3⟩ := h
 intro q hq
 have l1 := (Array.getElem?_eq_some_iff.1 h1).1
 have l2 := (Array.getElem?_eq_some_iff.1 h2).1
 rcases (h3 q).1 hq with e | e <;> subst e <;> exact ⟨by omega, by omega⟩
def hidA (p1 p2 p3 p4 : Value) (a : Act) : Prop := ∃ u0 u5 u6 u7 u8 u9 u10 u11 u12 u13 u14 u15 u16 u17 u18 u19 u20 u21 u22 u23 u24 u25 u26 u27 : Value, a = { tmps := #[u0, p1, p2, p3, p4, u5, u6, u7, u8, u9, u10, u11, u12, u13, u14, u15, u16, u17, u18, u19, u20, u21, u22, u23, u24, u25, u26, u27], defers := [] }
def HidR (ab B : Nat) (S : Nat → Prop) (x : WItem) (a : Act) (A : World) : Prop :=
 ∃ S0 blk, BoxI ab B S0 A ∧ hidA (.pointer (some ⟨B, 0, none⟩)) (.pointer (some ⟨B + 1, 0, none⟩)) (idV x.id) (.pointer (some ⟨blk, 0, none⟩)) a ∧ A.heap[blk]? = some (.cells (ndCells x.nd x.ka x.kc) 55 (0, 0)) ∧ (∀ q, S q ↔ S0 q ∨ q = blk) ∧ ¬ S0 blk
set_option maxHeartbeats 8000000 in
set_option maxRecDepth 100000 in
theorem hidden_any (ab : Nat) (M : Nat → Option Hg.Node) (par : Nat → Nat × Int) (hp : ParOk M par) (F F2 : Nat) (xs : List (Nat × Hg.Node)) (w : World) (hA : ArOk w ab M) (hxs : wk M F [1] [] = some xs) (hF : F ≤ 1000000) (hF2 : F2 ≤ 1000000) (hid : ∀ x ∈ xs, x.1 < idTop)
 (hall : ∀ x ∈ xs, x.2.kind = 15 ∨ x.2.kind = 7 → ∃ R, seenK M par F2 x.1 [] [] = some R ∧ 0 ≤ idxI R x.2.ref ∧ R.length ≤ 1000000) :
 Calls Tryz.prog 16 #[.pointer (some ⟨ab, 0, none⟩)] w fun e w' => e = .returned (.bool false) ∧ Below w.heap.size w w' := by
 have HA := Lib.hid hA
 have HP := Lib.hid hp
 have HALL := Lib.hid (And.intro hid hall)
 have TW := Lib.hid (walk_any ab 1)
 have TR := Lib.hid (root_any ab)
 clear hp hid hall
 refine (callsIn_wide (n := 5)).1 (callsIn_of_wp_marks Tryz.func16 rfl trivial ?_ rfl)
 simp only [Tryz.ntmps16, List.size_toArray, List.length_cons, List.length_nil, Nat.reduceAdd, Nat.reduceSub, Array.replicate_succ, Array.replicate_zero, List.push_toArray, List.append_toArray, List.nil_append, List.cons_append]
 gi_wp2
 refine wpIn_wide.2 (wp_calm ?_)
 have hb0 : Below w.heap.size w ((w.alloc (.cells #[.pointer (some ⟨ab, 0, none⟩)] 24)).alloc (.cells #[.bool false] 4)) := ((Below.refl _ _).alloc (Nat.le_refl _) _).alloc (by simp) _
 have h0 : ((w.alloc (.cells #[.pointer (some ⟨ab, 0, none⟩)] 24)).alloc (.cells #[.bool false] 4)).heap[w.heap.size]? = some (.cells #[.pointer (some ⟨ab, 0, none⟩)] 24 (0, 0)) := (heap_alloc_old _ _ (by simp)).trans (heap_alloc_new w _)
 have h1 : ((w.alloc (.cells #[.pointer (some ⟨ab, 0, none⟩)] 24)).alloc (.cells #[.bool false] 4)).heap[w.heap.size + 1]? = some (.cells #[.bool false] 4 (0, 0)) := by
  have := heap_alloc_new (w.alloc (.cells #[.pointer (some ⟨ab, 0, none⟩)] 24)) (.cells #[.bool false] 4)
  rw [show (w.alloc (.cells #[.pointer (some ⟨ab, 0, none⟩)] 24)).heap.size = w.heap.size + 1 by simp] at this
  exact this
 have hz : ((w.alloc (.cells #[.pointer (some ⟨ab, 0, none⟩)] 24)).alloc (.cells #[.bool false] 4)).heap.size = w.heap.size + 2 := by simp
 generalize World.alloc (World.alloc w _) _ = W0 at hb0 h0 h1 hz ⊢
 have e0 := cell_of_row W0 w.heap.size 0 _ _ (0, 0) h0
 simp at e0
 have hHeld : (fun w' => w'.cell? ⟨w.heap.size, 0, none⟩ = some (.pointer (some ⟨ab, 0, none⟩))) W0.drew := e0
 refine wp_region_two (fun w' => w'.cell? ⟨w.heap.size, 0, none⟩ = some (.pointer (some ⟨ab, 0, none⟩))) 3 (by kernel_rfl) ?_
 refine tk 0 ?_ rfl (by kernel_rfl) (fun _ _ _ h => h) ‹_› (by rfl) ?_ ?_
 rotate_left
 · (intro w' hSw; (try dsimp only at hSw); go_simp; try with_reducible rfl)
 try simp only [Act.put, sA, sB, sC, sD, sE, sF]
 refine tk 1 ?_ rfl (by kernel_rfl) (fun _ _ _ h => h) ‹_› (by rfl) ?_ ?_
 rotate_left
 · (intro w' hSw; (try dsimp only at hSw); go_simp; try with_reducible rfl)
 try simp only [Act.put, sA, sB, sC, sD, sE, sF]
 refine wpAnyT_one (i := 2) rfl (by kernel_rfl) (fun K hK => ?_)
 go_simp
 refine (TR.out _).mono ?_
 rintro e w1 ⟨rfl, rfl⟩
 refine hK.out _ _ (hHeld) (fun hHeld => ?_)
 clear hK K
 try simp only [Act.put, sA, sB, sC, sD, sE, sF]
 refine wpAnyT_tail (by kernel_rfl) ?_
 simp only [List.drop_succ_cons, List.drop_zero]
 go_wp2_with fail
 refine (TW.out _).mono ?_
 rintro e w1 ⟨rfl, rfl⟩
 have hz' : W0.drew.heap.size = w.heap.size + 2 := hz
 rw [hz']
 have hbW : Below W0.heap.size W0 ((W0.drew.alloc (.cells #[.pointer (some ⟨ab, 0, none⟩)] 24)).alloc (.cells #[idV 1] 31)) := (((Below.refl _ _).drew).alloc (Nat.le_refl _) _).alloc (by simp) _
 have k1 : ((W0.drew.alloc (.cells #[.pointer (some ⟨ab, 0, none⟩)] 24)).alloc (.cells #[idV 1] 31)).heap[w.heap.size + 2]? = some (.cells #[.pointer (some ⟨ab, 0, none⟩)] 24 (0, 0)) := by
  have := heap_alloc_new W0.drew (.cells #[.pointer (some ⟨ab, 0, none⟩)] 24)
  rw [hz'] at this
  exact (heap_alloc_old _ _ (by simp [hz'])).trans this
 have k2 : ((W0.drew.alloc (.cells #[.pointer (some ⟨ab, 0, none⟩)] 24)).alloc (.cells #[idV 1] 31)).heap[w.heap.size + 2 + 1]? = some (.cells #[idV 1] 31 (0, 0)) := by
  have := heap_alloc_new (W0.drew.alloc (.cells #[.pointer (some ⟨ab, 0, none⟩)] 24)) (.cells #[idV 1] 31)
  rw [show (W0.drew.alloc (.cells #[.pointer (some ⟨ab, 0, none⟩)] 24)).heap.size = w.heap.size + 2 + 1 by simp [hz']] at this
  exact this
 have hzW : ((W0.drew.alloc (.cells #[.pointer (some ⟨ab, 0, none⟩)] 24)).alloc (.cells #[idV 1] 31)).heap.size = w.heap.size + 4 := by simp [hz']
 generalize World.alloc (World.alloc W0.drew _) _ = W1 at hbW k1 k2 hzW ⊢
 have g0 : W1.heap[w.heap.size]? = some (.cells #[.pointer (some ⟨ab, 0, none⟩)] 24 (0, 0)) := (hbW.block _ (by omega)).trans h0
 have g1 : W1.heap[w.heap.size + 1]? = some (.cells #[.bool false] 4 (0, 0)) := (hbW.block _ (by omega)).trans h1
 have hb1 : Below w.heap.size w W1 := hb0.trans (hbW.mono (by omega))
 obtain ⟨⟨mb, c, hAr⟩, hkb⟩ := HA.out
 have hseq := walk_seq ab mb c M w.heap.size 1 (w.heap.size + 2 + 1) (w.heap.size + 2) F xs W1 (fun W' hf => hAr.below (hb1.trans (hf.below' (by omega))) (Nat.le_refl _)) (cell_of_row W1 (w.heap.size + 2 + 1) 0 _ _ (0, 0) k2) (cell_of_row W1 (w.heap.size + 2) 0 _ _ (0, 0) k1) ⟨by omega, by omega, by omega, by omega⟩ (by decide) hkb hxs hF
 have HB1 := Lib.hid hb1
 have HARW := Lib.hid (show ∀ W', Fr (fun q => w.heap.size ≤ q) W1 W' → ArOk W' ab M from fun W' hf => HA.out.below (hb1.trans (hf.below' (by omega))))
 clear hA hAr hkb k1 k2 hHeld h0 h1 hb0 hbW e0 TW TR hb1
 go_wp2
 gi_wp2
 refine wpIn_walk (gf := 67) rfl (enters_of Tryz.func67 (by kernel_rfl) rfl) hseq (Fr.refl _ _) rfl (fun q h => by rcases h with h | h <;> omega) (by omega)
  (fun S _ A => BoxI ab w.heap.size S A) (fun _ _ _ _ => False) (fun S _ x a A => HidR ab w.heap.size S x a A) (fun S pre A A' h hf => h.fr hf) (fun _ _ _ _ _ h _ => h) ?hI1 (fun S pre A h q hq => (h.lt q hq).2) ?hI1l
  (fun q => q = w.heap.size ∨ q = w.heap.size + 1) ⟨g0, ⟨_, g1⟩, fun q => Iff.rfl⟩ (fun q e => by rcases e with e | e <;> subst e <;> exact ⟨by omega, by omega, by omega⟩) ?assign ?body ?done ?stop
 case hI1 =>
  rintro S pre x a A A' ⟨S0, blk, hi, ha, hb, hS, hn⟩ hf
  exact ⟨S0, blk, hi.fr (hf.imp (fun q _ h h' => h (.inl ((hS q).2 (.inl h'))))), ha, hf.at_ hb (fun h => h (.inl ((hS blk).2 (.inr rfl)))), hS, hn⟩
 case hI1l =>
  rintro S pre x a A ⟨S0, blk, hi, ha, hb, hS, hn⟩ q hq
  rcases (hS q).1 hq with h | h
  ·
   exact (hi.lt q h).2
  ·
   subst h; exact (Array.getElem?_eq_some_iff.1 hb).1
 case assign =>
  intro l m S pre x A K hi hpre hx hkb hf hK
  gi_wp2
  refine hK (fun q => S q ∨ q = A.heap.size) _ _ ⟨S, A.heap.size, hi.fr ((Fr.refl _ _).alloc _), ?_, heap_alloc_new A _, fun q => Iff.rfl, fun h => by have := (hi.lt _ h).2; omega⟩ ((Fr.refl _ _).alloc _) (fun q h => h.imp (fun h => h) (fun h => by omega))
  exact ⟨_, _, _, _, _, _, _, _, _, _, _, _, _, _, _, _, _, _, _, _, _, _, _, _, rfl⟩
 case body =>
  rintro l m S pre x a1 A ⟨S0, blk, ⟨hbx, ⟨r0, hbr⟩, hSv⟩, ha, hb, hS, hn⟩ hpre hf
  obtain ⟨u0, u5, u6, u7, u8, u9, u10, u11, u12, u13, u14, u15, u16, u17, u18, u19, u20, u21, u22, u23, u24, u25, u26, u27, rfl⟩ := ha
  have hxm : x.strip ∈ xs := hpre.subset (by simp)
  have hf2 : Fr (fun q => w.heap.size ≤ q) W1 A := hf.imp (fun q _ e => by rcases e with (e | e) | e | e <;> omega)
  have HAA := Lib.hid (HARW.out A hf2)
  have HX := Lib.hid (And.intro (HALL.out.1 x.strip hxm) (HALL.out.2 x.strip hxm))
  have e0 := cell_of_row A blk 0 _ _ (0, 0) hb
  have e4 := cell_of_row A blk 4 _ _ (0, 0) hb
  have eB := cell_of_row A w.heap.size 0 _ _ (0, 0) hbx
  have hbl := (Array.getElem?_eq_some_iff.1 hb).1
  have hBl := (Array.getElem?_eq_some_iff.1 hbx).1
  simp at e0 e4 eB
  have hnx : ¬ (fun _ : Nat => False) w.heap.size := fun h => h
  have hnr : ¬ (fun _ : Nat => False) (w.heap.size + 1) := fun h => h
  generalize hnd : x.nd = nd at e0 e4
  generalize hxi : x.id = xi
  have hX : xi < idTop ∧ (nd.kind = 15 ∨ nd.kind = 7 → ∃ R, seenK M par F2 xi [] [] = some R ∧ 0 ≤ idxI R nd.ref ∧ R.length ≤ 1000000) := by
   have := HX.out
   rw [← hnd, ← hxi]
   exact this
  have hHeld : (fun w' => w'.cell? ⟨w.heap.size, 0, none⟩ = some (.pointer (some ⟨ab, 0, none⟩)) ∧ w'.cell? ⟨blk, 0, none⟩ = some (.int .u8 (nd.kind : Int)) ∧ w'.cell? ⟨blk, 4, none⟩ = some (.int .u64 (nd.ref : Int))) A.drew := ⟨eB, e0, e4⟩
  clear HX hpre hf hf2 hxm
  gi_wp2
  by_cases hk : nd.kind = 15 ∨ nd.kind = 7
  ·
   obtain ⟨R, hR, hix, hRl⟩ := hX.2 hk
   have hdi : decide (0 ≤ idxI R nd.ref) = true := by simpa using hix
   have TS := Lib.hid (seen_any ab M par HP.out xi F2 R A.drew (HAA.out.below (Below.refl _ _).drew) hX.1 hR hF2)
   by_cases k15 : nd.kind = 15
   ·
    have q15 : ((nd.kind : Int) == 15) = true := by simp [k15]
    clear hk k15 hR hix
    refine wpIn_region_two (fun w' => w'.cell? ⟨w.heap.size, 0, none⟩ = some (.pointer (some ⟨ab, 0, none⟩)) ∧ w'.cell? ⟨blk, 0, none⟩ = some (.int .u8 (nd.kind : Int)) ∧ w'.cell? ⟨blk, 4, none⟩ = some (.int .u64 (nd.ref : Int))) 16 (by kernel_rfl) (by kernel_rfl) (by rintro ⟨_, _, h⟩; exact h) ?_
    refine tk 0 ?_ rfl (by kernel_rfl) (fun _ _ _ h => h) ‹_› (by rfl) ?_ ?_
    rotate_left
    · (intro w' hSw; (try dsimp only at hSw); go_simp; try with_reducible rfl)
    try simp only [Act.put, sA, sB, sC, sD, sE, sF]
    refine tk 1 ?_ rfl (by kernel_rfl) (fun _ _ _ h => h) ‹_› (by rfl) ?_ ?_
    rotate_left
    · (intro w' hSw; (try dsimp only at hSw); go_simp; try with_reducible rfl)
    try simp only [Act.put, sA, sB, sC, sD, sE, sF]
    refine tk 2 ?_ rfl (by kernel_rfl) (fun _ _ _ h => h) ‹_› (by rfl) ?_ ?_
    rotate_left
    · (intro w' hSw; (try dsimp only at hSw); go_simp; try with_reducible rfl)
    try simp only [Act.put, sA, sB, sC, sD, sE, sF]
    refine tk 3 ?_ rfl (by kernel_rfl) (fun _ _ _ h => h) ‹_› (by rfl) ?_ ?_
    rotate_left
    · (intro w' hSw; (try dsimp only at hSw); go_simp; try with_reducible rfl)
    try simp only [Act.put, sA, sB, sC, sD, sE, sF]
    refine wpAnyT_take (i := 4) rfl (by kernel_rfl) (fun _ _ _ h => h) (by assumption) (Or.inr ⟨by rfl, rfl⟩) ?_
    try simp only [Act.put, sA, sB, sC, sD, sE, sF]
    refine wpAnyT_take (i := 5) rfl (by kernel_rfl) (fun _ _ _ h => h) (by assumption) (Or.inr ⟨by rfl, rfl⟩) ?_
    try simp only [Act.put, sA, sB, sC, sD, sE, sF]
    refine wpAnyT_take (i := 6) rfl (by kernel_rfl) (fun _ _ _ h => h) (by assumption) (Or.inr ⟨by rfl, rfl⟩) ?_
    try simp only [Act.put, sA, sB, sC, sD, sE, sF]
    refine tk 7 ?_ rfl (by kernel_rfl) (fun _ _ _ h => h) ‹_› (by rfl) ?_ ?_
    rotate_left
    · (intro w' hSw; (try dsimp only at hSw); go_simp; try with_reducible rfl)
    try simp only [Act.put, sA, sB, sC, sD, sE, sF]
    refine tk 8 ?_ rfl (by kernel_rfl) (fun _ _ _ h => h) ‹_› (by rfl) ?_ ?_
    rotate_left
    · (intro w' hSw; (try dsimp only at hSw); go_simp; try with_reducible rfl)
    try simp only [Act.put, sA, sB, sC, sD, sE, sF]
    refine tk 9 ?_ rfl (by kernel_rfl) (fun _ _ _ h => h) ‹_› (by rfl) ?_ ?_
    rotate_left
    · (intro w' hSw; (try dsimp only at hSw); go_simp; try with_reducible rfl)
    try simp only [Act.put, sA, sB, sC, sD, sE, sF]
    refine tk 10 ?_ rfl (by kernel_rfl) (fun _ _ _ h => h) ‹_› (by rfl) ?_ ?_
    rotate_left
    · (intro w' hSw; (try dsimp only at hSw); go_simp; try with_reducible rfl)
    try simp only [Act.put, sA, sB, sC, sD, sE, sF]
    refine tk 12 ?_ rfl (by kernel_rfl) (fun _ _ _ h => h) ‹_› (by rfl) ?_ ?_
    rotate_left
    · (intro w' hSw; (try dsimp only at hSw); go_simp; try with_reducible rfl)
    try simp only [Act.put, sA, sB, sC, sD, sE, sF]
    refine tk 13 ?_ rfl (by kernel_rfl) (fun _ _ _ h => h) ‹_› (by rfl) ?_ ?_
    rotate_left
    · (intro w' hSw; (try dsimp only at hSw); go_simp; try with_reducible rfl)
    try simp only [Act.put, sA, sB, sC, sD, sE, sF]
    refine wpAnyT_one (i := 11) rfl (by kernel_rfl) (fun K hK => ?_)
    go_simp
    refine TS.out.mono ?_
    rintro e W5 ⟨⟨v5, rfl, ho5⟩, hb5⟩
    have HO5 := Lib.hid ho5
    have HB5 := Lib.hid hb5
    clear ho5 TS
    refine hK.out _ _ (⟨(hb5.cell (p := ⟨w.heap.size, 0, none⟩) hBl).trans hHeld.1, (hb5.cell (p := ⟨blk, 0, none⟩) hbl).trans hHeld.2.1, (hb5.cell (p := ⟨blk, 4, none⟩) hbl).trans hHeld.2.2⟩) (fun hHeld => ?_)
    clear hK K
    try simp only [Act.put, sA, sB, sC, sD, sE, sF]
    refine wpAnyT_one (i := 14) rfl (by kernel_rfl) (fun K hK => ?_)
    go_simp
    have TC := contains_any W5.heap.size v5 R nd.ref W5 (Sl.of_own HO5.out) (by omega) hRl
    rw [hdi] at TC
    refine TC.mono ?_
    rintro e W6 ⟨rfl, rfl⟩
    refine hK.out _ _ (hHeld) (fun hHeld => ?_)
    clear hK K
    try simp only [Act.put, sA, sB, sC, sD, sE, sF]
    refine tk 15 ?_ rfl (by kernel_rfl) (fun _ _ _ h => h) ‹_› (by rfl) ?_ ?_
    rotate_left
    · (intro w' hSw; (try dsimp only at hSw); go_simp; try with_reducible rfl)
    try simp only [Act.put, sA, sB, sC, sD, sE, sF]
    refine wpAnyT_tail (by kernel_rfl) ?_
    simp only [List.drop_succ_cons, List.drop_zero]
    have HFA : Fr (fun _ => False) A W5 := (Fr.refl _ A).drew.trans (Fr.of_below HB5.out)
    have HFR := Lib.hid HFA
    clear HFA
    go_wp2
    gi_wp2
    exact ⟨S0, ⟨HFR.out.at_ hbx hnx, ⟨r0, HFR.out.at_ hbr hnr⟩, hSv⟩, HFR.out.imp (fun q _ e => e.elim), fun q h => .inl ((hS q).2 (.inl h))⟩
   ·
    have q15 : ((nd.kind : Int) == 15) = false := by simp; omega
    have q7 : ((nd.kind : Int) == 7) = true := by
     have : nd.kind = 7 := by omega
     simp [this]
    clear hk k15 hR hix
    refine wpIn_region_two (fun w' => w'.cell? ⟨w.heap.size, 0, none⟩ = some (.pointer (some ⟨ab, 0, none⟩)) ∧ w'.cell? ⟨blk, 0, none⟩ = some (.int .u8 (nd.kind : Int)) ∧ w'.cell? ⟨blk, 4, none⟩ = some (.int .u64 (nd.ref : Int))) 16 (by kernel_rfl) (by kernel_rfl) (by rintro ⟨_, _, h⟩; exact h) ?_
    refine tk 0 ?_ rfl (by kernel_rfl) (fun _ _ _ h => h) ‹_› (by rfl) ?_ ?_
    rotate_left
    · (intro w' hSw; (try dsimp only at hSw); go_simp; try with_reducible rfl)
    try simp only [Act.put, sA, sB, sC, sD, sE, sF]
    refine tk 1 ?_ rfl (by kernel_rfl) (fun _ _ _ h => h) ‹_› (by rfl) ?_ ?_
    rotate_left
    · (intro w' hSw; (try dsimp only at hSw); go_simp; try with_reducible rfl)
    try simp only [Act.put, sA, sB, sC, sD, sE, sF]
    refine tk 2 ?_ rfl (by kernel_rfl) (fun _ _ _ h => h) ‹_› (by rfl) ?_ ?_
    rotate_left
    · (intro w' hSw; (try dsimp only at hSw); go_simp; try with_reducible rfl)
    try simp only [Act.put, sA, sB, sC, sD, sE, sF]
    refine tk 3 ?_ rfl (by kernel_rfl) (fun _ _ _ h => h) ‹_› (by rfl) ?_ ?_
    rotate_left
    · (intro w' hSw; (try dsimp only at hSw); go_simp; try with_reducible rfl)
    try simp only [Act.put, sA, sB, sC, sD, sE, sF]
    refine tk 4 ?_ rfl (by kernel_rfl) (fun _ _ _ h => h) ‹_› (by rfl) ?_ ?_
    rotate_left
    · (intro w' hSw; (try dsimp only at hSw); go_simp; try with_reducible rfl)
    try simp only [Act.put, sA, sB, sC, sD, sE, sF]
    refine tk 5 ?_ rfl (by kernel_rfl) (fun _ _ _ h => h) ‹_› (by rfl) ?_ ?_
    rotate_left
    · (intro w' hSw; (try dsimp only at hSw); go_simp; try with_reducible rfl)
    try simp only [Act.put, sA, sB, sC, sD, sE, sF]
    refine tk 6 ?_ rfl (by kernel_rfl) (fun _ _ _ h => h) ‹_› (by rfl) ?_ ?_
    rotate_left
    · (intro w' hSw; (try dsimp only at hSw); go_simp; try with_reducible rfl)
    try simp only [Act.put, sA, sB, sC, sD, sE, sF]
    refine tk 7 ?_ rfl (by kernel_rfl) (fun _ _ _ h => h) ‹_› (by rfl) ?_ ?_
    rotate_left
    · (intro w' hSw; (try dsimp only at hSw); go_simp; try with_reducible rfl)
    try simp only [Act.put, sA, sB, sC, sD, sE, sF]
    refine tk 8 ?_ rfl (by kernel_rfl) (fun _ _ _ h => h) ‹_› (by rfl) ?_ ?_
    rotate_left
    · (intro w' hSw; (try dsimp only at hSw); go_simp; try with_reducible rfl)
    try simp only [Act.put, sA, sB, sC, sD, sE, sF]
    refine tk 9 ?_ rfl (by kernel_rfl) (fun _ _ _ h => h) ‹_› (by rfl) ?_ ?_
    rotate_left
    · (intro w' hSw; (try dsimp only at hSw); go_simp; try with_reducible rfl)
    try simp only [Act.put, sA, sB, sC, sD, sE, sF]
    refine tk 10 ?_ rfl (by kernel_rfl) (fun _ _ _ h => h) ‹_› (by rfl) ?_ ?_
    rotate_left
    · (intro w' hSw; (try dsimp only at hSw); go_simp; try with_reducible rfl)
    try simp only [Act.put, sA, sB, sC, sD, sE, sF]
    refine tk 12 ?_ rfl (by kernel_rfl) (fun _ _ _ h => h) ‹_› (by rfl) ?_ ?_
    rotate_left
    · (intro w' hSw; (try dsimp only at hSw); go_simp; try with_reducible rfl)
    try simp only [Act.put, sA, sB, sC, sD, sE, sF]
    refine tk 13 ?_ rfl (by kernel_rfl) (fun _ _ _ h => h) ‹_› (by rfl) ?_ ?_
    rotate_left
    · (intro w' hSw; (try dsimp only at hSw); go_simp; try with_reducible rfl)
    try simp only [Act.put, sA, sB, sC, sD, sE, sF]
    refine wpAnyT_one (i := 11) rfl (by kernel_rfl) (fun K hK => ?_)
    go_simp
    refine TS.out.mono ?_
    rintro e W5 ⟨⟨v5, rfl, ho5⟩, hb5⟩
    have HO5 := Lib.hid ho5
    have HB5 := Lib.hid hb5
    clear ho5 TS
    refine hK.out _ _ (⟨(hb5.cell (p := ⟨w.heap.size, 0, none⟩) hBl).trans hHeld.1, (hb5.cell (p := ⟨blk, 0, none⟩) hbl).trans hHeld.2.1, (hb5.cell (p := ⟨blk, 4, none⟩) hbl).trans hHeld.2.2⟩) (fun hHeld => ?_)
    clear hK K
    try simp only [Act.put, sA, sB, sC, sD, sE, sF]
    refine wpAnyT_one (i := 14) rfl (by kernel_rfl) (fun K hK => ?_)
    go_simp
    have TC := contains_any W5.heap.size v5 R nd.ref W5 (Sl.of_own HO5.out) (by omega) hRl
    rw [hdi] at TC
    refine TC.mono ?_
    rintro e W6 ⟨rfl, rfl⟩
    refine hK.out _ _ (hHeld) (fun hHeld => ?_)
    clear hK K
    try simp only [Act.put, sA, sB, sC, sD, sE, sF]
    refine tk 15 ?_ rfl (by kernel_rfl) (fun _ _ _ h => h) ‹_› (by rfl) ?_ ?_
    rotate_left
    · (intro w' hSw; (try dsimp only at hSw); go_simp; try with_reducible rfl)
    try simp only [Act.put, sA, sB, sC, sD, sE, sF]
    refine wpAnyT_tail (by kernel_rfl) ?_
    simp only [List.drop_succ_cons, List.drop_zero]
    have HFA : Fr (fun _ => False) A W5 := (Fr.refl _ A).drew.trans (Fr.of_below HB5.out)
    have HFR := Lib.hid HFA
    clear HFA
    go_wp2
    gi_wp2
    exact ⟨S0, ⟨HFR.out.at_ hbx hnx, ⟨r0, HFR.out.at_ hbr hnr⟩, hSv⟩, HFR.out.imp (fun q _ e => e.elim), fun q h => .inl ((hS q).2 (.inl h))⟩
  ·
   have q15 : ((nd.kind : Int) == 15) = false := by simp; omega
   have q7 : ((nd.kind : Int) == 7) = false := by simp; omega
   clear hk
   refine wpIn_region_two (fun w' => w'.cell? ⟨w.heap.size, 0, none⟩ = some (.pointer (some ⟨ab, 0, none⟩)) ∧ w'.cell? ⟨blk, 0, none⟩ = some (.int .u8 (nd.kind : Int)) ∧ w'.cell? ⟨blk, 4, none⟩ = some (.int .u64 (nd.ref : Int))) 16 (by kernel_rfl) (by kernel_rfl) (by rintro ⟨_, _, h⟩; exact h) ?_
   refine tk 0 ?_ rfl (by kernel_rfl) (fun _ _ _ h => h) ‹_› (by rfl) ?_ ?_
   rotate_left
   · (intro w' hSw; (try dsimp only at hSw); go_simp; try with_reducible rfl)
   try simp only [Act.put, sA, sB, sC, sD, sE, sF]
   refine tk 1 ?_ rfl (by kernel_rfl) (fun _ _ _ h => h) ‹_› (by rfl) ?_ ?_
   rotate_left
   · (intro w' hSw; (try dsimp only at hSw); go_simp; try with_reducible rfl)
   try simp only [Act.put, sA, sB, sC, sD, sE, sF]
   refine tk 2 ?_ rfl (by kernel_rfl) (fun _ _ _ h => h) ‹_› (by rfl) ?_ ?_
   rotate_left
   · (intro w' hSw; (try dsimp only at hSw); go_simp; try with_reducible rfl)
   try simp only [Act.put, sA, sB, sC, sD, sE, sF]
   refine tk 3 ?_ rfl (by kernel_rfl) (fun _ _ _ h => h) ‹_› (by rfl) ?_ ?_
   rotate_left
   · (intro w' hSw; (try dsimp only at hSw); go_simp; try with_reducible rfl)
   try simp only [Act.put, sA, sB, sC, sD, sE, sF]
   refine tk 4 ?_ rfl (by kernel_rfl) (fun _ _ _ h => h) ‹_› (by rfl) ?_ ?_
   rotate_left
   · (intro w' hSw; (try dsimp only at hSw); go_simp; try with_reducible rfl)
   try simp only [Act.put, sA, sB, sC, sD, sE, sF]
   refine tk 5 ?_ rfl (by kernel_rfl) (fun _ _ _ h => h) ‹_› (by rfl) ?_ ?_
   rotate_left
   · (intro w' hSw; (try dsimp only at hSw); go_simp; try with_reducible rfl)
   try simp only [Act.put, sA, sB, sC, sD, sE, sF]
   refine tk 6 ?_ rfl (by kernel_rfl) (fun _ _ _ h => h) ‹_› (by rfl) ?_ ?_
   rotate_left
   · (intro w' hSw; (try dsimp only at hSw); go_simp; try with_reducible rfl)
   try simp only [Act.put, sA, sB, sC, sD, sE, sF]
   refine tk 7 ?_ rfl (by kernel_rfl) (fun _ _ _ h => h) ‹_› (by rfl) ?_ ?_
   rotate_left
   · (intro w' hSw; (try dsimp only at hSw); go_simp; try with_reducible rfl)
   try simp only [Act.put, sA, sB, sC, sD, sE, sF]
   refine tk 8 ?_ rfl (by kernel_rfl) (fun _ _ _ h => h) ‹_› (by rfl) ?_ ?_
   rotate_left
   · (intro w' hSw; (try dsimp only at hSw); go_simp; try with_reducible rfl)
   try simp only [Act.put, sA, sB, sC, sD, sE, sF]
   refine wpAnyT_take (i := 9) rfl (by kernel_rfl) (fun _ _ _ h => h) (by assumption) (Or.inr ⟨by rfl, rfl⟩) ?_
   try simp only [Act.put, sA, sB, sC, sD, sE, sF]
   refine wpAnyT_take (i := 10) rfl (by kernel_rfl) (fun _ _ _ h => h) (by assumption) (Or.inr ⟨by rfl, rfl⟩) ?_
   try simp only [Act.put, sA, sB, sC, sD, sE, sF]
   refine wpAnyT_take (i := 11) rfl (by kernel_rfl) (fun _ _ _ h => h) (by assumption) (Or.inr ⟨by rfl, rfl⟩) ?_
   try simp only [Act.put, sA, sB, sC, sD, sE, sF]
   refine wpAnyT_take (i := 12) rfl (by kernel_rfl) (fun _ _ _ h => h) (by assumption) (Or.inr ⟨by rfl, rfl⟩) ?_
   try simp only [Act.put, sA, sB, sC, sD, sE, sF]
   refine wpAnyT_take (i := 13) rfl (by kernel_rfl) (fun _ _ _ h => h) (by assumption) (Or.inr ⟨by rfl, rfl⟩) ?_
   try simp only [Act.put, sA, sB, sC, sD, sE, sF]
   refine wpAnyT_take (i := 14) rfl (by kernel_rfl) (fun _ _ _ h => h) (by assumption) (Or.inr ⟨by rfl, rfl⟩) ?_
   try simp only [Act.put, sA, sB, sC, sD, sE, sF]
   refine wpAnyT_take (i := 15) rfl (by kernel_rfl) (fun _ _ _ h => h) (by assumption) (Or.inr ⟨by rfl, rfl⟩) ?_
   try simp only [Act.put, sA, sB, sC, sD, sE, sF]
   refine wpAnyT_tail (by kernel_rfl) ?_
   simp only [List.drop_succ_cons, List.drop_zero]
   have HFA : Fr (fun _ => False) A A.drew := (Fr.refl _ A).drew
   have HFR := Lib.hid HFA
   clear HFA
   go_wp2
   gi_wp2
   exact ⟨S0, ⟨HFR.out.at_ hbx hnx, ⟨r0, HFR.out.at_ hbr hnr⟩, hSv⟩, HFR.out.imp (fun q _ e => e.elim), fun q h => .inl ((hS q).2 (.inl h))⟩
 case done =>
  rintro S ys W hys ⟨hbx, ⟨r0, hbr⟩, hSv⟩ hK hnS hf
  have eB := cell_of_row W (w.heap.size + 1) 0 _ _ (0, 0) hbr
  simp at eB
  have fB : W.frozen? ⟨w.heap.size + 1, 0, none⟩ = false := by simp [World.frozen?, hbr]
  have hl2 := (Array.getElem?_eq_some_iff.1 hbr).1
  have hne : ¬ w.heap.size + 1 = W1.heap.size := by omega
  have hK2 : (W.setCell ⟨w.heap.size + 1, 0, none⟩ (.bool false)).heap[W1.heap.size]? = some (.deferred (some [])) := (Below.heap_setCell W ⟨w.heap.size + 1, 0, none⟩ (.bool false) W1.heap.size (fun e => hne e.symm)).trans hK
  have hfs := hf.set (p := ⟨w.heap.size + 1, 0, none⟩) (.inl (.inl (.inr rfl))) (.bool false)
  have hbs : (W.setCell ⟨w.heap.size + 1, 0, none⟩ (.bool false)).heap[w.heap.size + 1]? = some (.cells #[.bool false] 4 (0, 0)) := heap_setCell_same hbr _
  have hpf := putObj_fr (W.setCell ⟨w.heap.size + 1, 0, none⟩ (.bool false)) W1.heap.size (.deferred none)
  have hcell : ((W.setCell ⟨w.heap.size + 1, 0, none⟩ (.bool false)).putObj W1.heap.size (.deferred none)).cell? ⟨w.heap.size + 1, 0, none⟩ = some (.bool false) := by
   have := cell_of_row _ (w.heap.size + 1) 0 _ _ (0, 0) (hpf.at_ hbs hne)
   simpa using this
  have HFIN := Lib.hid (show Below w.heap.size w ((W.setCell ⟨w.heap.size + 1, 0, none⟩ (.bool false)).putObj W1.heap.size (.deferred none)) from by
   have h1 := HB1.out.trans ((hfs.imp (D' := fun q => w.heap.size ≤ q) (fun q _ e => by rcases e with (e | e) | e | e <;> omega)).below' (by omega))
   exact h1.trans ((hpf.imp (D' := fun q => w.heap.size ≤ q) (fun q _ e => by omega)).below' h1.size))
  clear hbx hbr hSv hf hfs hbs hpf
  gi_wp2
  refine ⟨by simp, .inl ⟨_, _, rfl, run_takeDeferred hK2, ?_⟩⟩
  refine ⟨.bool false, ?_, rfl, HFIN.out⟩
  simp [results, Tryz.results16, go_sem, hcell]
 case stop =>
  intro c S pre W hpre h
  exact h.elim
end Go.Proofs.YtbjecnbcoadfbaaGreatDoor
