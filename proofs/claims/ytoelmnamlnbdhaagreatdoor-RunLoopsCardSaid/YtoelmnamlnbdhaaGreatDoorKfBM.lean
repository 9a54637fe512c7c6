/-
  Part of a proof of RunLoops: contracts of functions that the claim reaches, and plain lemmas.
-/
import Derived.Test.YtoelmnamlnbdhaaGreatDoorKfBL
import Derived.Test.YtoelmnamlnbdhaaGreatDoorKfBK
set_option linter.all false
namespace Hg
theorem loop_zero (C : RC) : ∀ (d c b : Nat) (V V' : RV) (s s' : RS) (x : Int), C.loop d c b V s = some (x, V', s') → x = 0
 | 0, _, _, _, _, _, _, _, h => by simp [RC.loop] at h
 | d + 1, c, b, V, V', s, s', x, h => by
   unfold RC.loop at h
   by_cases hb : (C.burn s).1 = false
   ·
    rw [if_pos hb] at h
    injection h with h
    injection h with h1 h
    exact h1.symm
   rw [if_neg hb] at h
   cases h1 : C.expr V d c (C.burn s).2 with
   | none => rw [h1] at h; cases h
   | some p =>
     obtain ⟨y, s4⟩ := p
     rw [h1, Option.bind_some] at h
     dsimp only at h
     by_cases hy : y = 0
     ·
      rw [if_pos hy] at h
      injection h with h
      injection h with h1 h
      exact h1.symm
     ·
      rw [if_neg hy] at h
      cases h5 : C.block d b V s4 with
      | none => rw [h5] at h; cases h
      | some p =>
        obtain ⟨o5, R5, s5⟩ := p
        rw [h5, Option.bind_some] at h
        exact loop_zero C d c b _ _ _ _ _ h
end Hg
namespace Go.Proofs.YtoelmnamlnbdhaaGreatDoor
open Go.RowKit
open Hg (RC RS RV KB)
variable {C : RC} {ab mb nb fb n : Nat} {w0 w w' : World} {s s' : RS} {tv tv' : Value} {R : RV}
def LpR (C : RC) (ab mb nb fb : Nat) (w0 : World) (tv : Value) (c b : Nat) (x : Int) (R' : RV) (s' : RS) (d : Nat) (w1 : World) (k : Nat) (wr : World) : Prop :=
 ∃ (R : RV) (s : RS) (tv1 : Value), k ≤ d ∧ C.loop k c b R s = some (x, R', s') ∧ St C ab mb nb fb w0 wr s tv1 R ∧ MStep mb nb fb w1 tv wr tv1
theorem St.mdlt (h : St C ab mb nb fb w0 w s tv R) : ∀ q, MD mb nb fb tv q → q < w.heap.size := fun q e => by
 rcases e with e | e | e | e
 ·
  have := h.m.lt; omega
 ·
  have h9 := h.nobj; obtain ⟨es, ck, h9⟩ := h9; have := (Array.getElem?_eq_some_iff.1 h9).1; omega
 ·
  have := h.f.lt; omega
 ·
  exact (h.m.tr.lt q e).2
theorem St.keepN {bn : Nat} {w2 : World} (nd : Hg.Node) (ka : Option Addr) (kc : Nat) (hb : ∀ q, MD mb nb fb tv q → bn ≠ q) (hn : w2.heap[bn]? = some (.cells #[.int .u8 (nd.kind : Int), strV nd.name, .int .i64 nd.num, .int .u8 (nd.type : Int), .int .u64 (nd.ref : Int), .slice ka nd.kids.length kc] 70 (0, 0))) (hs : MStep mb nb fb w2 tv w' tv') :
 w'.heap[bn]? = some (.cells #[.int .u8 (nd.kind : Int), strV nd.name, .int .i64 nd.num, .int .u8 (nd.type : Int), .int .u64 (nd.ref : Int), .slice ka nd.kids.length kc] 70 (0, 0)) := hs.1.at_ hn (fun e => hb _ e rfl)
set_option maxHeartbeats 8000000 in
set_option maxRecDepth 100000 in
theorem while_rany (hRB : ∀ id, (C.nd id).ref < idTop) (d : Nat) (ih : ∀ k, k < d → BlockC C ab mb nb fb w0 k) (id : Nat) (hid : id < idTop) (hnc : s.nc < 1000000) (R R' : RV) (x : Int) (hS : St C ab mb nb fb w0 w s tv R)
 (hk9 : (C.nd id).kind = 9) (hl2 : (C.nd id).kids.length = 2) (h : C.loop d ((C.nd id).kids.getD 0 0) ((C.nd id).kids.getD 1 0) R s.ask = some (x, R', s')) :
 Calls Tryz.prog 70 #[.pointer (some ⟨mb, 0, none⟩), .int .u64 (id : Int), .map (some fb)] w (StmtRes C ab mb nb fb w0 tv x R' s' w) := by
 have T := rnode_any hS.m id hid hnc
 unfold RNodeRes at T
 have hx0 : x = 0 := Hg.loop_zero _ _ _ _ _ _ _ _ _ h
 subst hx0
 generalize C.nd id = nd at h T hk9 hl2
 have h0l : 0 < nd.kids.length := by omega
 have h1l : 1 < nd.kids.length := by omega
 have hk0 : nd.kids[0] = nd.kids.getD 0 0 := by simp [List.getD, h0l]
 have hk1 : nd.kids[1] = nd.kids.getD 1 0 := by simp [List.getD, h1l]
 generalize nd.kids.getD 0 0 = i0 at hk0 h
 generalize nd.kids.getD 1 0 = i1 at hk1 h
 have HT := Lib.hid T
 have HS := Lib.hid hS
 have IH := Lib.hid ih
 have HC := Lib.hid h
 have HK01 := Lib.hid (And.intro hk0 hk1)
 have HE := Lib.hid (expr_rany (C := C) (ab := ab) (mb := mb) (nb := nb) (fb := fb) (w0 := w0) hRB)
 have q : ((nd.kind : Int) == 9) = true := by simp [hk9]
 clear T ih hS h hk9 hk0 hk1 hl2
 go_enter Tryz.func70, Tryz.ntmps70
 go_wp2_with fail
 refine HT.out.mono ?_
 rintro e w1 ⟨ka, kc, rfl, hm1, hf1, hk1⟩
 go_upto_region 2 with fail
 have hbA : Below w1.heap.size w1 (w1.alloc (.cells #[.int .u8 (nd.kind : Int), strV nd.name, .int .i64 nd.num, .int .u8 (nd.type : Int), .int .u64 (nd.ref : Int), .slice ka nd.kids.length kc] 70)) := (Below.refl _ _).alloc (Nat.le_refl _) _
 have hnA := heap_alloc_new w1 (.cells #[.int .u8 (nd.kind : Int), strV nd.name, .int .i64 nd.num, .int .u8 (nd.type : Int), .int .u64 (nd.ref : Int), .slice ka nd.kids.length kc] 70)
 generalize World.alloc w1 _ = w2 at hbA hnA ⊢
 have hS1 := HS.out.node hm1 hf1
 have hS2 := hS1.below hbA
 have HMD := Lib.hid hS1.mdlt
 have HS2 := Lib.hid hS2
 have HM2 := Lib.hid (show MStep mb nb fb w tv w2 tv from (MStep.ofN hf1).trans (MStep.of_below hbA))
 have HK2 := Lib.hid (hk1.below hbA)
 have HN2 := Lib.hid hnA
 have hnl2 := (Array.getElem?_eq_some_iff.1 hnA).1
 obtain ⟨z0, z1, z2, z3, z4, z5, -⟩ := six_cells nd ka kc hnA
 generalize hbn : w1.heap.size = bn at HMD HN2 hnl2 z0 z1 z2 z3 z4 z5 ⊢
 have hbnl : ∀ q, MD mb nb fb tv q → bn ≠ q := fun q h e => by have := HMD.out q h; omega
 have HBN := Lib.hid hbnl
 clear hm1 hf1 hk1 hbA hnA hS1 hS2 HT hbnl hbn
 go_wp2
 go_loopg [] d (fun k wr => LpR C ab mb nb fb w0 tv i0 i1 0 R' s' d w2 k wr)
 case atStart => exact ⟨R, s.ask, tv, Nat.le_refl _, HC.out, HS2.out, MStep.refl _ _ _ _ _⟩
 case round =>
  obtain ⟨R2, s2, tv2, hk, hst, hS2, hs2⟩ := hrel
  cases gk with
  | zero => simp [RC.loop] at hst
  | succ gk =>
    unfold RC.loop at hst
    have TB := burn_any hS2.m
    have hlt2 := hs2.1.size
    unfold BurnRes at TB
    generalize C.burn s2 = r at hst TB
    obtain ⟨ok, s3⟩ := r
    have TB := Lib.hid TB
    have HM2r := Lib.hid hs2
    have HSr := Lib.hid hS2
    cases ok with
    | false =>
      rw [if_pos rfl] at hst
      injection hst with hst
      injection hst with h1 hst
      injection hst with h2 h3
      subst h2; subst h3
      clear hs2 hS2 HC z0 z1 z2 z3 z4 z5
      go_wp2_with fail
      refine TB.out.mono ?_
      rintro e w3 ⟨rfl, hm3, hf3⟩
      have HS3 := Lib.hid (HSr.out.burn hm3 hf3)
      have HM3 := Lib.hid (HM2.out.trans (HM2r.out.trans (MStep.ofM hf3)))
      clear hm3 hf3 TB
      go_wp2
      go_ret
      exact ⟨rfl, tv2, HS3.out, HM3.out⟩
    | true =>
      rw [if_neg (by simp)] at hst
      cases h1 : C.expr R2 gk i0 s3 with
      | none => rw [h1] at hst; cases hst
      | some p =>
        obtain ⟨y, s4⟩ := p
        rw [h1, Option.bind_some] at hst
        dsimp only at hst
        obtain ⟨he4, hu4⟩ := Hg.expr_keep _ _ _ _ _ _ _ h1
        have HC1 := Lib.hid h1
        have HST := Lib.hid hst
        clear hs2 hS2 HC h1 hst
        go_wp2_with fail
        refine TB.out.mono ?_
        rintro e w3 ⟨rfl, hm3, hf3⟩
        have hS3 := HSr.out.burn hm3 hf3
        have hM3 := HM2r.out.trans (MStep.ofM hf3)
        have HM3 := Lib.hid hM3
        have T4 := Lib.hid (HE.out gk i0 R2 s3 s4 y tv2 w3 HC1.out hS3)
        have HS3 := Lib.hid hS3
        obtain ⟨b, o', rfl, hbl, e0⟩ := (HK2.out.step hM3 HS2.out.nobj HS2.out.fobj).1.idAt (l := nd.kids) (k := 0) h0l
        rw [HK01.out.1, Nat.add_zero] at e0
        have hn3 := St.keepN nd _ kc HBN.out HN2.out hM3
        obtain ⟨-, -, -, -, -, y5, -⟩ := six_cells nd _ kc hn3
        clear hm3 hf3 hS3 hM3 TB hn3 z0 z1 z2 z3 z4 z5
        go_wp2_with fail
        refine T4.out.mono ?_
        rintro e w4 ⟨rfl, hS4, hs4⟩
        have HS4 := Lib.hid hS4
        have hM4 := HM3.out.trans hs4
        have HM4 := Lib.hid hM4
        have hn4 := St.keepN nd _ kc HBN.out HN2.out hM4
        obtain ⟨-, -, -, -, -, x5, -⟩ := six_cells nd _ kc hn4
        have m4 := hS4.m.read.2.2.2.1
        rw [he4] at m4
        obtain ⟨b', o2, hbo, hbl1, e1⟩ := (HK2.out.step hM4 HS2.out.nobj HS2.out.fobj).1.idAt (l := nd.kids) (k := 1) h1l
        rw [HK01.out.2] at e1
        injection hbo with hbo
        injection hbo with hb1 hb2
        subst hb1; subst hb2
        by_cases hy : y = 0
        ·
         have hst := HST.out
         rw [if_pos hy] at hst
         injection hst with hst
         injection hst with h1 hst
         injection hst with h2 h3
         subst h2; subst h3
         have q5 : (y != 0) = false := by simp [hy]
         clear hS4 hs4 hM4 T4 hn4 y5 e0 hy
         go_wp2
         go_ret
         exact ⟨rfl, tv2, HS4.out, HM2.out.trans HM4.out⟩
        ·
         have hst := HST.out
         rw [if_neg hy] at hst
         cases h5 : C.block gk i1 R2 s4 with
         | none => rw [h5] at hst; cases hst
         | some p =>
           obtain ⟨o5, R5, s5⟩ := p
           rw [h5, Option.bind_some] at hst
           dsimp only at hst
           have HST5 := Lib.hid hst
           have T5 := Lib.hid (IH.out gk (by omega) i1 R2 R5 s4 s5 o5 tv2 w4 h5 hS4)
           have q5 : (y != 0) = true := by simp [hy]
           clear hst h5 hS4 hs4 hM4 T4 hn4 y5 e0 hy
           go_wp2_with fail
           refine T5.out.mono ?_
           rintro e w5 ⟨rfl, tv5, hS5, hs5⟩
           have HS5 := Lib.hid hS5
           have HM5 := Lib.hid (HM4.out.trans hs5)
           clear hS5 hs5 T5 x5 e1 m4
           go_wp2
           go_roundg gk
           case measure => omega
           case rel => exact ⟨R5, s5, tv5, by omega, HST5.out, HS5.out, HM5.out⟩
end Go.Proofs.YtoelmnamlnbdhaaGreatDoor
namespace Go.Proofs.YtoelmnamlnbdhaaGreatDoor
open Go.RowKit
open Hg (RC RS RV KB)
variable {C : RC} {ab mb nb fb n : Nat} {w0 w w' : World} {s s' : RS} {tv tv' : Value} {R : RV}
theorem i64Info : (Tryz.prog.info? 2).map (fun i => (i.zero, i.size, i.bytes)) = some (some (i64V 0), 1, 8) := by kernel_rfl
set_option maxHeartbeats 8000000 in
set_option maxRecDepth 100000 in
theorem stmt_rstep (hRB : ∀ id, (C.nd id).ref < idTop) (d : Nat) (ih : ∀ k, k < d → BlockC C ab mb nb fb w0 k) : StmtC C ab mb nb fb w0 d := by
 intro id R R' s s' x tv w h hS
 cases d with
 | zero => simp [RC.stmt] at h
 | succ d =>
   unfold RC.stmt at h
   by_cases c1 : 18446744073709551616 ≤ id ∨ 1000000 ≤ s.nc ∨ s.e ≠ 0 ∨ 1000000 ≤ R.c
   ·
    rw [if_pos c1] at h; cases h
   rw [if_neg c1] at h
   have hid : id < idTop := by unfold idTop; omega
   by_cases k9 : (C.nd id).kind = 9
   ·
    rw [if_pos k9] at h
    by_cases k2 : (C.nd id).kids.length = 2
    ·
     rw [if_pos k2] at h
     exact while_rany hRB d (fun k hk => ih k (by omega)) id hid (by omega) R R' x hS k9 k2 h
    ·
     rw [if_neg k2] at h; cases h
   rw [if_neg k9] at h
   have T := rnode_any hS.m id hid (by omega)
   unfold RNodeRes at T
   have TB := fun (w2 : World) (hm : Mach C ab mb nb w0 w2 s.ask tv) => burn_any hm
   have hrb := hRB id
   unfold BurnRes at TB
   generalize C.nd id = nd at h T hrb k9
   generalize C.burn s.ask = r at h TB
   obtain ⟨ok, s3⟩ := r
   have HT := Lib.hid T
   have TB := Lib.hid TB
   have HS := Lib.hid hS
   have HIDC := Lib.hid c1
   have q9 : ((nd.kind : Int) == 9) = false := by simp; omega
   cases ok with
   | false =>
     rw [if_pos rfl] at h
     injection h with h
     injection h with h1 h
     injection h with h2 h3
     subst h1; subst h2; subst h3
     clear T ih hS k9 c1
     go_enter Tryz.func70, Tryz.ntmps70
     go_wp2_with fail
     refine HT.out.mono ?_
     rintro e w1 ⟨ka, kc, rfl, hm1, hf1, hk1⟩
     go_upto_region 2 with fail
     have hbA : Below w1.heap.size w1 (w1.alloc (.cells #[.int .u8 (nd.kind : Int), strV nd.name, .int .i64 nd.num, .int .u8 (nd.type : Int), .int .u64 (nd.ref : Int), .slice ka nd.kids.length kc] 70)) := (Below.refl _ _).alloc (Nat.le_refl _) _
     have hnA := heap_alloc_new w1 (.cells #[.int .u8 (nd.kind : Int), strV nd.name, .int .i64 nd.num, .int .u8 (nd.type : Int), .int .u64 (nd.ref : Int), .slice ka nd.kids.length kc] 70)
     generalize World.alloc w1 _ = w2 at hbA hnA ⊢
     have hS1 := HS.out.node hm1 hf1
     have hS2 := hS1.below hbA
     have HMD := Lib.hid hS1.mdlt
     have HS2 := Lib.hid hS2
     have HM2 := Lib.hid (show MStep mb nb fb w tv w2 tv from (MStep.ofN hf1).trans (MStep.of_below hbA))
     have HK2 := Lib.hid (hk1.below hbA)
     have HN2 := Lib.hid hnA
     have hnl2 := (Array.getElem?_eq_some_iff.1 hnA).1
     obtain ⟨z0, z1, z2, z3, z4, z5, -⟩ := six_cells nd ka kc hnA
     generalize hbn : w1.heap.size = bn at HMD HN2 hnl2 z0 z1 z2 z3 z4 z5 ⊢
     have hbnl : ∀ q, MD mb nb fb tv q → bn ≠ q := fun q h e => by have := HMD.out q h; omega
     have HBN := Lib.hid hbnl
     clear hm1 hf1 hk1 hbA hnA hS1 hS2 HT hbnl hbn
     go_wp2_with fail
     refine (TB.out _ HS2.out.m).mono ?_
     rintro e w3 ⟨rfl, hm3, hf3⟩
     have HS3 := Lib.hid (HS2.out.burn hm3 hf3)
     have HM3 := Lib.hid (HM2.out.trans (MStep.ofM hf3))
     clear hm3 hf3 TB z0 z1 z2 z3 z4 z5
     go_wp2
     go_ret
     exact ⟨rfl, tv, HS3.out, HM3.out⟩
   | true =>
     rw [if_neg (by simp)] at h
     by_cases k1 : nd.kids.length = 1
     ·
      rw [if_pos k1] at h
      have h0l : 0 < nd.kids.length := by omega
      have hk0 : nd.kids[0] = nd.kids.getD 0 0 := by simp [List.getD, h0l]
      dsimp only at h
      generalize nd.kids.getD 0 0 = i0 at hk0 h
      have HK0 := Lib.hid hk0
      have HE := Lib.hid (expr_rany (C := C) (ab := ab) (mb := mb) (nb := nb) (fb := fb) (w0 := w0) hRB)
      cases h1 : C.expr R d i0 s3 with
      | none => rw [h1] at h; cases h
      | some p =>
        obtain ⟨y, s4⟩ := p
        rw [h1, Option.bind_some] at h
        dsimp only at h
        have HE4 := Lib.hid (Hg.expr_keep _ _ _ _ _ _ _ h1).1
        have HC1 := Lib.hid h1
        clear T ih hS k9 h1 k1 hk0
        by_cases k6 : nd.kind = 6
        ·
         rw [if_pos k6] at h
         injection h with h
         injection h with h1 h
         injection h with h2 h3
         subst h1; subst h2; subst h3
         have q6 : ((nd.kind : Int) == 6) = true := by simp [k6]
         clear k6
         go_enter Tryz.func70, Tryz.ntmps70
         go_wp2_with fail
         refine HT.out.mono ?_
         rintro e w1 ⟨ka, kc, rfl, hm1, hf1, hk1⟩
         go_upto_region 2 with fail
         have hbA : Below w1.heap.size w1 (w1.alloc (.cells #[.int .u8 (nd.kind : Int), strV nd.name, .int .i64 nd.num, .int .u8 (nd.type : Int), .int .u64 (nd.ref : Int), .slice ka nd.kids.length kc] 70)) := (Below.refl _ _).alloc (Nat.le_refl _) _
         have hnA := heap_alloc_new w1 (.cells #[.int .u8 (nd.kind : Int), strV nd.name, .int .i64 nd.num, .int .u8 (nd.type : Int), .int .u64 (nd.ref : Int), .slice ka nd.kids.length kc] 70)
         generalize World.alloc w1 _ = w2 at hbA hnA ⊢
         have hS1 := HS.out.node hm1 hf1
         have hS2 := hS1.below hbA
         have HMD := Lib.hid hS1.mdlt
         have HS2 := Lib.hid hS2
         have HM2 := Lib.hid (show MStep mb nb fb w tv w2 tv from (MStep.ofN hf1).trans (MStep.of_below hbA))
         have HK2 := Lib.hid (hk1.below hbA)
         have HN2 := Lib.hid hnA
         have hnl2 := (Array.getElem?_eq_some_iff.1 hnA).1
         obtain ⟨z0, z1, z2, z3, z4, z5, -⟩ := six_cells nd ka kc hnA
         generalize hbn : w1.heap.size = bn at HMD HN2 hnl2 z0 z1 z2 z3 z4 z5 ⊢
         have hbnl : ∀ q, MD mb nb fb tv q → bn ≠ q := fun q h e => by have := HMD.out q h; omega
         have HBN := Lib.hid hbnl
         clear hm1 hf1 hk1 hbA hnA hS1 hS2 HT hbnl hbn
         go_wp2_with fail
         refine (TB.out _ HS2.out.m).mono ?_
         rintro e w3 ⟨rfl, hm3, hf3⟩
         have hS3 := HS2.out.burn hm3 hf3
         have hM3 : MStep mb nb fb w2 tv w3 tv := MStep.ofM hf3
         have T4 := Lib.hid (HE.out d i0 R s3 s4 y tv w3 HC1.out hS3)
         have HM3 := Lib.hid hM3
         obtain ⟨b, o', rfl, hbl, e0⟩ := (HK2.out.step hM3 HS2.out.nobj HS2.out.fobj).1.idAt (l := nd.kids) (k := 0) h0l
         rw [HK0.out, Nat.add_zero] at e0
         have hn3 := St.keepN nd _ kc HBN.out HN2.out hM3
         obtain ⟨-, -, -, -, -, y5, -⟩ := six_cells nd _ kc hn3
         clear hm3 hf3 hS3 hM3 TB hn3 z0 z1 z2 z3 z4 z5
         go_wp2_with fail
         refine T4.out.mono ?_
         rintro e w4 ⟨rfl, hS4, hs4⟩
         have HS4 := Lib.hid hS4
         have hM4 := HM3.out.trans hs4
         have HM4 := Lib.hid (HM2.out.trans hM4)
         have hn4 := St.keepN nd _ kc HBN.out HN2.out hM4
         obtain ⟨x0, -, -, -, x4, -, -⟩ := six_cells nd _ kc hn4
         obtain ⟨-, -, -, m4, m6, -, m9⟩ := hS4.m.read
         rw [HE4.out] at m4
         clear hs4 hM4 T4 hn4 y5 e0
         obtain ⟨w5, hrun, hS5, hs5⟩ := hS4.set id y hid (by have := HIDC.out; omega)
         have HS5 := Lib.hid hS5
         have HM5 := Lib.hid (HM4.out.trans hs5)
         clear hS5 hs5 hS4 c1
         go_wp2
         go_ret
         exact ⟨rfl, tv, HS5.out, HM5.out⟩
        rw [if_neg k6] at h
        have q6 : ((nd.kind : Int) == 6) = false := by simp; omega
        by_cases k7 : nd.kind = 7
        ·
         rw [if_pos k7] at h
         injection h with h
         injection h with h1 h
         injection h with h2 h3
         subst h1; subst h2; subst h3
         have q7 : ((nd.kind : Int) == 7) = true := by simp [k7]
         clear k6 k7
         go_enter Tryz.func70, Tryz.ntmps70
         go_wp2_with fail
         refine HT.out.mono ?_
         rintro e w1 ⟨ka, kc, rfl, hm1, hf1, hk1⟩
         go_upto_region 2 with fail
         have hbA : Below w1.heap.size w1 (w1.alloc (.cells #[.int .u8 (nd.kind : Int), strV nd.name, .int .i64 nd.num, .int .u8 (nd.type : Int), .int .u64 (nd.ref : Int), .slice ka nd.kids.length kc] 70)) := (Below.refl _ _).alloc (Nat.le_refl _) _
         have hnA := heap_alloc_new w1 (.cells #[.int .u8 (nd.kind : Int), strV nd.name, .int .i64 nd.num, .int .u8 (nd.type : Int), .int .u64 (nd.ref : Int), .slice ka nd.kids.length kc] 70)
         generalize World.alloc w1 _ = w2 at hbA hnA ⊢
         have hS1 := HS.out.node hm1 hf1
         have hS2 := hS1.below hbA
         have HMD := Lib.hid hS1.mdlt
         have HS2 := Lib.hid hS2
         have HM2 := Lib.hid (show MStep mb nb fb w tv w2 tv from (MStep.ofN hf1).trans (MStep.of_below hbA))
         have HK2 := Lib.hid (hk1.below hbA)
         have HN2 := Lib.hid hnA
         have hnl2 := (Array.getElem?_eq_some_iff.1 hnA).1
         obtain ⟨z0, z1, z2, z3, z4, z5, -⟩ := six_cells nd ka kc hnA
         generalize hbn : w1.heap.size = bn at HMD HN2 hnl2 z0 z1 z2 z3 z4 z5 ⊢
         have hbnl : ∀ q, MD mb nb fb tv q → bn ≠ q := fun q h e => by have := HMD.out q h; omega
         have HBN := Lib.hid hbnl
         clear hm1 hf1 hk1 hbA hnA hS1 hS2 HT hbnl hbn
         go_wp2_with fail
         refine (TB.out _ HS2.out.m).mono ?_
         rintro e w3 ⟨rfl, hm3, hf3⟩
         have hS3 := HS2.out.burn hm3 hf3
         have hM3 : MStep mb nb fb w2 tv w3 tv := MStep.ofM hf3
         have T4 := Lib.hid (HE.out d i0 R s3 s4 y tv w3 HC1.out hS3)
         have HM3 := Lib.hid hM3
         obtain ⟨b, o', rfl, hbl, e0⟩ := (HK2.out.step hM3 HS2.out.nobj HS2.out.fobj).1.idAt (l := nd.kids) (k := 0) h0l
         rw [HK0.out, Nat.add_zero] at e0
         have hn3 := St.keepN nd _ kc HBN.out HN2.out hM3
         obtain ⟨-, -, -, -, -, y5, -⟩ := six_cells nd _ kc hn3
         clear hm3 hf3 hS3 hM3 TB hn3 z0 z1 z2 z3 z4 z5
         go_wp2_with fail
         refine T4.out.mono ?_
         rintro e w4 ⟨rfl, hS4, hs4⟩
         have HS4 := Lib.hid hS4
         have hM4 := HM3.out.trans hs4
         have HM4 := Lib.hid (HM2.out.trans hM4)
         have hn4 := St.keepN nd _ kc HBN.out HN2.out hM4
         obtain ⟨x0, -, -, -, x4, -, -⟩ := six_cells nd _ kc hn4
         obtain ⟨-, -, -, m4, m6, -, m9⟩ := hS4.m.read
         rw [HE4.out] at m4
         clear hs4 hM4 T4 hn4 y5 e0
         obtain ⟨w5, hrun, hS5, hs5⟩ := hS4.set nd.ref y hrb (by have := HIDC.out; omega)
         have HS5 := Lib.hid hS5
         have HM5 := Lib.hid (HM4.out.trans hs5)
         clear hS5 hs5 hS4 c1
         go_wp2
         go_ret
         exact ⟨rfl, tv, HS5.out, HM5.out⟩
        rw [if_neg k7] at h
        have q7 : ((nd.kind : Int) == 7) = false := by simp; omega
        by_cases k11 : nd.kind = 11 ∧ s4.trace.length < 1000000
        ·
         rw [if_pos k11] at h
         obtain ⟨k11, hlt⟩ := k11
         injection h with h
         injection h with h1 h
         injection h with h2 h3
         subst h1; subst h2; subst h3
         have q11 : ((nd.kind : Int) == 11) = true := by simp [k11]
         have HLT := Lib.hid hlt
         clear k6 k7 k11 hlt
         go_enter Tryz.func70, Tryz.ntmps70
         go_wp2_with fail
         refine HT.out.mono ?_
         rintro e w1 ⟨ka, kc, rfl, hm1, hf1, hk1⟩
         go_upto_region 2 with fail
         have hbA : Below w1.heap.size w1 (w1.alloc (.cells #[.int .u8 (nd.kind : Int), strV nd.name, .int .i64 nd.num, .int .u8 (nd.type : Int), .int .u64 (nd.ref : Int), .slice ka nd.kids.length kc] 70)) := (Below.refl _ _).alloc (Nat.le_refl _) _
         have hnA := heap_alloc_new w1 (.cells #[.int .u8 (nd.kind : Int), strV nd.name, .int .i64 nd.num, .int .u8 (nd.type : Int), .int .u64 (nd.ref : Int), .slice ka nd.kids.length kc] 70)
         generalize World.alloc w1 _ = w2 at hbA hnA ⊢
         have hS1 := HS.out.node hm1 hf1
         have hS2 := hS1.below hbA
         have HMD := Lib.hid hS1.mdlt
         have HS2 := Lib.hid hS2
         have HM2 := Lib.hid (show MStep mb nb fb w tv w2 tv from (MStep.ofN hf1).trans (MStep.of_below hbA))
         have HK2 := Lib.hid (hk1.below hbA)
         have HN2 := Lib.hid hnA
         have hnl2 := (Array.getElem?_eq_some_iff.1 hnA).1
         obtain ⟨z0, z1, z2, z3, z4, z5, -⟩ := six_cells nd ka kc hnA
         generalize hbn : w1.heap.size = bn at HMD HN2 hnl2 z0 z1 z2 z3 z4 z5 ⊢
         have hbnl : ∀ q, MD mb nb fb tv q → bn ≠ q := fun q h e => by have := HMD.out q h; omega
         have HBN := Lib.hid hbnl
         clear hm1 hf1 hk1 hbA hnA hS1 hS2 HT hbnl hbn
         go_wp2_with fail
         refine (TB.out _ HS2.out.m).mono ?_
         rintro e w3 ⟨rfl, hm3, hf3⟩
         have hS3 := HS2.out.burn hm3 hf3
         have hM3 : MStep mb nb fb w2 tv w3 tv := MStep.ofM hf3
         have T4 := Lib.hid (HE.out d i0 R s3 s4 y tv w3 HC1.out hS3)
         have HM3 := Lib.hid hM3
         obtain ⟨b, o', rfl, hbl, e0⟩ := (HK2.out.step hM3 HS2.out.nobj HS2.out.fobj).1.idAt (l := nd.kids) (k := 0) h0l
         rw [HK0.out, Nat.add_zero] at e0
         have hn3 := St.keepN nd _ kc HBN.out HN2.out hM3
         obtain ⟨-, -, -, -, -, y5, -⟩ := six_cells nd _ kc hn3
         clear hm3 hf3 hS3 hM3 TB hn3 z0 z1 z2 z3 z4 z5
         go_wp2_with fail
         refine T4.out.mono ?_
         rintro e w4 ⟨rfl, hS4, hs4⟩
         have HS4 := Lib.hid hS4
         have hM4 := HM3.out.trans hs4
         have HM4 := Lib.hid (HM2.out.trans hM4)
         have hn4 := St.keepN nd _ kc HBN.out HN2.out hM4
         obtain ⟨x0, -, -, -, x4, -, -⟩ := six_cells nd _ kc hn4
         obtain ⟨-, -, -, m4, m6, -, m9⟩ := hS4.m.read
         rw [HE4.out] at m4
         clear hs4 hM4 T4 hn4 y5 e0
         obtain ⟨j0, hj, hj0, hj1, hj2⟩ := info_parts i64Info
         go_wp2_with (at_builtin; refine wpList_append_own_at _ rfl (.tmp 78) (.tmp 80) _ rfl w0.heap.size 2 j0 _ 1 8 Tryz.underlying30 hj hj0 hj1 hj2 rfl (by decide) tv s4.trace.length (s4.trace.map i64V) rfl (HS4.out.m.tr.alloc _) ⟨w4.heap.size, 0, none⟩ 1 1 [i64V y] rfl rfl (cells_new _ _ _) ?_ ?_ ?_ ?_ ?_)
         ·
          intro u hu; simp only [List.mem_singleton] at hu; subst hu; rfl
         ·
          have := HLT.out; unfold maxLen; omega
         ·
          have := HLT.out; omega
         ·
          have := HS4.out.m.bel.size; simp; omega
         ·
          intro v5 w5 own5 g5 _ at5
          obtain ⟨y3, z3, rfl⟩ := ownsRow_succ own5
          obtain ⟨hS5, hs5⟩ := HS4.out.tell _ y own5 g5 (by simpa using at5)
          have HS5 := Lib.hid hS5
          have HM5 := Lib.hid (HM4.out.trans hs5)
          have hb5 := (g5.block mb (by have := HS4.out.m.lt; simp; omega) (fun e => HS4.out.m.tm e.symm)).trans ((heap_alloc_old w4 _ HS4.out.m.lt).trans HS4.out.m.cell)
          have hf5 : ∀ i, w5.frozen? ⟨mb, i, none⟩ = false := fun i => by simp [World.frozen?, hb5]
          have c5 := cell_of_row w5 mb 6 _ _ (0, 0) hb5
          simp at c5
          clear hS5 hs5 own5 g5 at5 hS4 hb5
          go_wp2
          go_ret
          exact ⟨rfl, _, HS5.out, HM5.out⟩
        rw [if_neg k11] at h
        by_cases k10 : nd.kind = 10
        ·
         rw [if_pos k10] at h
         injection h with h
         injection h with h1 h
         injection h with h2 h3
         subst h1; subst h2; subst h3
         have q10 : ((nd.kind : Int) == 10) = true := by simp [k10]
         have q11 : ((nd.kind : Int) == 11) = false := by simp; omega
         have q8 : ((nd.kind : Int) == 8) = false := by simp; omega
         clear k6 k7 k10 k11
         go_enter Tryz.func70, Tryz.ntmps70
         go_wp2_with fail
         refine HT.out.mono ?_
         rintro e w1 ⟨ka, kc, rfl, hm1, hf1, hk1⟩
         go_upto_region 2 with fail
         have hbA : Below w1.heap.size w1 (w1.alloc (.cells #[.int .u8 (nd.kind : Int), strV nd.name, .int .i64 nd.num, .int .u8 (nd.type : Int), .int .u64 (nd.ref : Int), .slice ka nd.kids.length kc] 70)) := (Below.refl _ _).alloc (Nat.le_refl _) _
         have hnA := heap_alloc_new w1 (.cells #[.int .u8 (nd.kind : Int), strV nd.name, .int .i64 nd.num, .int .u8 (nd.type : Int), .int .u64 (nd.ref : Int), .slice ka nd.kids.length kc] 70)
         generalize World.alloc w1 _ = w2 at hbA hnA ⊢
         have hS1 := HS.out.node hm1 hf1
         have hS2 := hS1.below hbA
         have HMD := Lib.hid hS1.mdlt
         have HS2 := Lib.hid hS2
         have HM2 := Lib.hid (show MStep mb nb fb w tv w2 tv from (MStep.ofN hf1).trans (MStep.of_below hbA))
         have HK2 := Lib.hid (hk1.below hbA)
         have HN2 := Lib.hid hnA
         have hnl2 := (Array.getElem?_eq_some_iff.1 hnA).1
         obtain ⟨z0, z1, z2, z3, z4, z5, -⟩ := six_cells nd ka kc hnA
         generalize hbn : w1.heap.size = bn at HMD HN2 hnl2 z0 z1 z2 z3 z4 z5 ⊢
         have hbnl : ∀ q, MD mb nb fb tv q → bn ≠ q := fun q h e => by have := HMD.out q h; omega
         have HBN := Lib.hid hbnl
         clear hm1 hf1 hk1 hbA hnA hS1 hS2 HT hbnl hbn
         go_wp2_with fail
         refine (TB.out _ HS2.out.m).mono ?_
         rintro e w3 ⟨rfl, hm3, hf3⟩
         have hS3 := HS2.out.burn hm3 hf3
         have hM3 : MStep mb nb fb w2 tv w3 tv := MStep.ofM hf3
         have T4 := Lib.hid (HE.out d i0 R s3 s4 y tv w3 HC1.out hS3)
         have HM3 := Lib.hid hM3
         obtain ⟨b, o', rfl, hbl, e0⟩ := (HK2.out.step hM3 HS2.out.nobj HS2.out.fobj).1.idAt (l := nd.kids) (k := 0) h0l
         rw [HK0.out, Nat.add_zero] at e0
         have hn3 := St.keepN nd _ kc HBN.out HN2.out hM3
         obtain ⟨-, -, -, -, -, y5, -⟩ := six_cells nd _ kc hn3
         clear hm3 hf3 hS3 hM3 TB hn3 z0 z1 z2 z3 z4 z5
         go_wp2_with fail
         refine T4.out.mono ?_
         rintro e w4 ⟨rfl, hS4, hs4⟩
         have HS4 := Lib.hid hS4
         have hM4 := HM3.out.trans hs4
         have HM4 := Lib.hid (HM2.out.trans hM4)
         have hn4 := St.keepN nd _ kc HBN.out HN2.out hM4
         obtain ⟨x0, -, -, -, x4, -, -⟩ := six_cells nd _ kc hn4
         obtain ⟨-, -, -, m4, m6, -, m9⟩ := hS4.m.read
         rw [HE4.out] at m4
         clear hs4 hM4 T4 hn4 y5 e0
         clear hS4
         go_wp2
         go_ret
         exact ⟨rfl, tv, HS4.out, HM4.out⟩
        rw [if_neg k10] at h; cases h
     ·
      rw [if_neg k1] at h; cases h
end Go.Proofs.YtoelmnamlnbdhaaGreatDoor
namespace Go.Proofs.YtoelmnamlnbdhaaGreatDoor
open Go.RowKit
open Hg (RC RS RV KB)
variable {C : RC} {ab mb nb fb n : Nat} {w0 w w' : World} {s s' : RS} {tv tv' : Value} {R : RV}
theorem all_rany (hRB : ∀ id, (C.nd id).ref < idTop) (d : Nat) : StmtC C ab mb nb fb w0 d ∧ BlockC C ab mb nb fb w0 d := by
 induction d using Nat.strongRecOn with
 | _ d ih => exact ⟨stmt_rstep hRB d (fun k hk => (ih k hk).2), block_rstep d (fun k hk => (ih k hk).1)⟩
def CallRRes (C : RC) (ab mb nb : Nat) (w0 : World) (x : Int) (s' : RS) (e : Ending) (w' : World) : Prop :=
 e = .returned (i64V x) ∧ ∃ tv', Mach C ab mb nb w0 w' s' tv'
theorem Mach.frame (h : Mach C ab mb nb w0 w s tv) : St C ab mb nb w.heap.size w0 (w.alloc (.map #[] 0)) s tv ⟨fun _ => 0, 0⟩ := by
 refine ⟨h.below ((Below.refl _ _).alloc (Nat.le_refl _) _), FrAt.made w, fun e => ?_, h.bel.size⟩
 obtain ⟨es, ck, h9⟩ := h.nobj
 have := (Array.getElem?_eq_some_iff.1 h9).1
 omega
set_option maxHeartbeats 8000000 in
set_option maxRecDepth 100000 in
theorem call_rany (hRB : ∀ id, (C.nd id).ref < idTop) (d f : Nat) (x : Int) (h : C.call d f s = some (x, s')) (hM : Mach C ab mb nb w0 w s tv) :
 Calls Tryz.prog 15 #[.pointer (some ⟨mb, 0, none⟩), .int .u64 (f : Int), .slice none 0 0] w (CallRRes C ab mb nb w0 x s') := by
 unfold RC.call at h
 have TB := burn_any hM
 unfold BurnRes at TB
 generalize C.burn s = r at h TB
 obtain ⟨ok, s1⟩ := r
 have TB := Lib.hid TB
 dsimp only at h
 cases ok with
 | false =>
   rw [if_pos rfl] at h
   injection h with h
   injection h with h1 h2
   subst h1; subst h2
   go_enter Tryz.func15, Tryz.ntmps15
   go_wp2_with fail
   refine TB.out.mono ?_
   rintro e w1 ⟨rfl, hm1, hf1⟩
   have HM1 := Lib.hid hm1
   clear hm1 hf1 hM TB
   go_wp2
   go_ret
   exact ⟨rfl, tv, HM1.out⟩
 | true =>
   rw [if_neg (by simp)] at h
   by_cases c1 : 18446744073709551616 ≤ f ∨ 1000000 ≤ s1.nc ∨ (C.nd f).kids = []
   ·
    rw [if_pos c1] at h; cases h
   rw [if_neg c1] at h
   have hfi : f < idTop := by unfold idTop; omega
   have hnc : s1.nc < 1000000 := by omega
   have hne : (C.nd f).kids ≠ [] := fun e => c1 (.inr (.inr e))
   have hlen := hM.arOk.len f
   rw [show Hg.ndAt C.M f = C.nd f from rfl] at hlen
   have TN := fun {W : World} (hm : Mach C ab mb nb w0 W s1 tv) => rnode_any hm f hfi hnc
   unfold RNodeRes at TN
   have TN := Lib.hid (fun W hm => @TN W hm)
   have HAL := Lib.hid (fun (fb : Nat) => (all_rany (C := C) (ab := ab) (mb := mb) (nb := nb) (fb := fb) (w0 := w0) hRB d).2)
   generalize C.nd f = nd at h TN hne hlen
   cases hb : C.block d (nd.kids.getD (nd.kids.length - 1) 0) ⟨fun _ => 0, 0⟩ s1.ask with
   | none => rw [hb] at h; cases h
   | some p =>
     obtain ⟨x2, R2, s2⟩ := p
     rw [hb, Option.map_some] at h
     injection h with h
     injection h with h1 h2
     subst h1; subst h2
     have h0l : nd.kids.length - 1 < nd.kids.length := by
      have : 0 < nd.kids.length := List.length_pos_iff.2 hne
      omega
     have hk0 : nd.kids[nd.kids.length - 1] = nd.kids.getD (nd.kids.length - 1) 0 := by simp [List.getD, h0l]
     generalize nd.kids.getD (nd.kids.length - 1) 0 = i0 at hk0 hb
     have HB := Lib.hid hb
     have hw : wrap64 ((nd.kids.length : Int) - 1) = ((nd.kids.length - 1 : Nat) : Int) := by unfold wrap64; omega
     have HK0 := Lib.hid hk0
     have HL := Lib.hid hlen
     clear hb hk0 hne c1 hM hlen
     have hmm := @run_makeMap Tryz.prog
     go_enter Tryz.func15, Tryz.ntmps15
     go_wp2_with fail
     refine TB.out.mono ?_
     rintro e w1 ⟨rfl, hm1, hf1⟩
     have hS2 := hm1.frame
     clear TB hf1
     go_upto_region 4 with fail
     generalize hfb : w1.heap.size = fb at hS2 ⊢
     generalize World.alloc w1 _ = w2 at hS2 ⊢
     have HS2 := Lib.hid hS2
     have T3 := Lib.hid (TN.out w2 hS2.m)
     clear hS2 hm1 TN hfb
     go_wp2_with fail
     refine T3.out.mono ?_
     rintro e w3 ⟨ka, kc, rfl, hm3, hf3, hk3⟩
     have hfld := field5 nd ka kc w3
     have HS3 := Lib.hid (HS2.out.node hm3 hf3)
     obtain ⟨b, o', rfl, hbl, e0⟩ := hk3.1.idAt (l := nd.kids) (k := nd.kids.length - 1) h0l
     rw [HK0.out] at e0
     have T4 := Lib.hid (HAL.out fb i0 _ R2 s1.ask s2 x2 tv w3 HB.out HS3.out)
     clear hm3 hf3 hk3 T3
     go_wp2
     go_loopg [21] 0 (fun _ p wr => p = .int .i64 0 ∧ wr = w3)
     case atStart => exact ⟨rfl, rfl⟩
     case round =>
      obtain ⟨rfl, rfl⟩ := hrel
      go_wp2_with fail
      refine T4.out.mono ?_
      rintro e w5 ⟨rfl, tv5, hS5, hs5⟩
      have HM5 := Lib.hid hS5.m
      clear hS5 hs5 T4 e0 hfld
      go_wp2
      go_ret
      exact ⟨rfl, tv5, HM5.out⟩
end Go.Proofs.YtoelmnamlnbdhaaGreatDoor
namespace Hg
def nameK (M : Nat → Option Node) (id : Nat) : Str := (ndAt M id).name
def typeK (M : Nat → Option Node) (id : Nat) : Nat :=
 if (ndAt M id).kind = 13 ∨ (ndAt M id).kind = 17 ∨ (ndAt M id).kind = 20 then 1
 else if (ndAt M id).kind = 14 ∨ (ndAt M id).kind = 16 then 2
 else if (ndAt M id).kind = 18 then (if (ndAt M id).num ≤ 5 then 1 else 2)
 else if (ndAt M id).kind = 15 ∨ (ndAt M id).kind = 19 then (ndAt M (ndAt M id).ref).type
 else 0
end Hg
namespace Go.Proofs.YtoelmnamlnbdhaaGreatDoor
open Go.RowKit Go.Sort Go.Lib
open Hg (GT gl wk isK ndAt kidsK modsK funcsK KB nameK typeK)
set_option maxHeartbeats 4000000 in
set_option maxRecDepth 100000 in
theorem kname_any (ab : Nat) (M : Nat → Option Hg.Node) (id : Nat) (w : World) (hA : ArOk w ab M) (hid : id < idTop) :
 Calls Tryz.prog 71 #[.pointer (some ⟨ab, 0, none⟩), idV id] w fun e w' => e = .returned (strV (nameK M id)) ∧ Below w.heap.size w w' := by
 have TG := Lib.hid (hA.getN hid)
 unfold nameK
 clear hA
 go_enter Tryz.func71, Tryz.ntmps71
 go_wp2_with fail
 refine TG.out.mono ?_
 rintro e w1 ⟨ka, kc, rfl, ho1, hb1⟩
 have HB := Lib.hid hb1
 clear TG ho1 hb1
 go_wp2
 go_ret
 exact ⟨rfl, HB.out.alloc HB.out.size _⟩
set_option maxHeartbeats 4000000 in
set_option maxRecDepth 100000 in
theorem modules_any (ab : Nat) (M : Nat → Option Hg.Node) (w : World) (hA : ArOk w ab M) :
 Calls Tryz.prog 63 #[.pointer (some ⟨ab, 0, none⟩)] w (RowRes w (modsK M)) := by
 have T1 := Lib.hid (root_any ab w)
 have T2 := Lib.hid (kids_any ab M 1 2 w hA (by decide))
 clear hA
 go_enter Tryz.func63, Tryz.ntmps63
 go_wp2_with fail
 refine T1.out.mono ?_
 rintro e w1 ⟨rfl, rfl⟩
 clear T1
 go_wp2_with fail
 refine T2.out.mono ?_
 rintro e w2 ⟨⟨v, rfl, ho⟩, hb⟩
 have HO := Lib.hid ho
 have HB := Lib.hid hb
 clear T2 ho hb
 go_wp2
 go_ret
 exact ⟨⟨v, rfl, HO.out⟩, HB.out⟩
set_option maxHeartbeats 4000000 in
set_option maxRecDepth 100000 in
theorem funcs_any (ab : Nat) (M : Nat → Option Hg.Node) (m : Nat) (w : World) (hA : ArOk w ab M) (hm : m < idTop) :
 Calls Tryz.prog 64 #[.pointer (some ⟨ab, 0, none⟩), idV m] w (RowRes w (funcsK M m)) := by
 have T2 := Lib.hid (kids_any ab M m 3 w hA hm)
 clear hA
 go_enter Tryz.func64, Tryz.ntmps64
 go_wp2_with fail
 refine T2.out.mono ?_
 rintro e w2 ⟨⟨v, rfl, ho⟩, hb⟩
 have HO := Lib.hid ho
 have HB := Lib.hid hb
 clear T2 ho hb
 go_wp2
 go_ret
 exact ⟨⟨v, rfl, HO.out⟩, HB.out⟩
theorem strInfo88 : (Tryz.prog.info? 9).map (fun i => (i.zero, i.size, i.bytes)) = some (some (.string ⟨#[]⟩), 1, 16) := by kernel_rfl
def StrRes (w : World) (l : List (List UInt8)) (e : Ending) (w' : World) : Prop := (∃ v, e = .returned v ∧ w'.ownsRow w.heap.size 9 1 v l.length (l.map strV)) ∧ Below w.heap.size w w'
set_option maxHeartbeats 4000000 in
set_option maxRecDepth 100000 in
theorem names_any (ab : Nat) (M : Nat → Option Hg.Node) (v : Value) (ids : List Nat) (w : World) (hA : ArOk w ab M) (hs : Sl w w.heap.size v ids.length (ids.map idV)) (hi : ∀ x ∈ ids, x < idTop) (hl : ids.length ≤ 1000000) :
 Calls Tryz.prog 62 #[.pointer (some ⟨ab, 0, none⟩), v] w (StrRes w (ids.map (nameK M))) := by
 obtain ⟨i0, hi0, hz0, hz1, hz2⟩ := info_parts strInfo88
 have HA := Lib.hid hA
 have HS := Lib.hid hs
 have HI := Lib.hid hi
 obtain ⟨a, c, rfl⟩ := hs.form
 clear hA hs hi
 go_enter Tryz.func62, Tryz.ntmps62
 go_wp2
 go_loopw [5, 10] (fun p q wr => ∃ (k : Nat) (u : Value), p = u ∧ q = .int .i64 (k : Int) ∧ k ≤ ids.length ∧ wr.ownsRow w.heap.size 9 1 u k ((ids.take k).map (fun x => strV (nameK M x))) ∧ Below w.heap.size w wr) (fun _ q wr => ids.length - (intOf q).toNat)
 case atStart => exact ⟨0, _, rfl, rfl, Nat.zero_le _, ⟨rfl, .inl ⟨rfl, rfl⟩⟩, Below.refl _ _⟩
 case round =>
  obtain ⟨k, u, hu, rfl, hk, ho, hb⟩ := hrel
  have hu := hu.symm
  subst hu
  have HB := Lib.hid hb
  have HO := Lib.hid ho
  by_cases hlt : k < ids.length
  ·
   obtain ⟨b, o, rfl, _, kc⟩ := (HS.out.below HB.out (Nat.le_refl _)).mapAt hlt
   have TN := Lib.hid (kname_any ab M ids[k] wr (HA.out.below HB.out) (HI.out _ (List.getElem_mem hlt)))
   have htk : ids.take (k + 1) = ids.take k ++ [ids[k]] := List.take_succ_eq_append_getElem hlt
   generalize ids[k] = x at kc TN htk
   have HTK := Lib.hid htk
   clear hb ho htk
   go_wp2_with fail
   refine TN.out.mono ?_
   rintro e w1 ⟨rfl, hb1⟩
   have HB1 := Lib.hid (HB.out.trans (hb1.mono HB.out.size))
   have HO1 := Lib.hid (ownsRow_fr HO.out (Fr.of_below (D := fun _ => False) hb1) (fun _ _ e => e))
   have hsz := HB1.out.size
   clear hb1 TN
   go_wp2_with (at_builtin; refine wpList_append_own_at _ rfl (.tmp 14) (.tmp 18) _ rfl w.heap.size 9 i0 _ 1 16 Tryz.underlying99 hi0 hz0 hz1 hz2 rfl (by decide) _ k ((ids.take k).map (fun x => strV (nameK M x))) rfl (HO1.out.alloc _) ⟨w1.heap.size, 0, none⟩ 1 1 [strV (nameK M x)] rfl rfl (cells_new _ _ _) ?_ ?_ ?_ ?_ ?_)
   all_goals first
    | intro v3 W3 own3 g3 _ at3
    | (unfold maxLen; omega)
    | omega
    | (simp; omega)
    | (intro u hu; simp only [List.mem_singleton] at hu; subst hu; rfl)
   have HO3 := Lib.hid (show W3.ownsRow w.heap.size 9 1 v3 (k + 1) ((ids.take (k + 1)).map (fun x => strV (nameK M x))) from by rw [HTK.out, List.map_append, List.map_take]; exact own3)
   have HB3 := Lib.hid ((HB1.out.alloc HB1.out.size _).grown g3 (by simp; omega) (fun q hq => (HO1.out.lt q hq).1))
   clear own3 g3 at3
   go_wp2
   go_roundw
   case rel => exact ⟨k + 1, v3, rfl, by go_num, by omega, HO3.out, HB3.out⟩
   case measure => simp [intOf]; omega
  ·
   obtain rfl : k = ids.length := by omega
   rw [List.take_length] at ho
   have HO2 := Lib.hid ho
   clear hb ho
   go_wp2
   go_ret
   refine ⟨⟨_, rfl, ?_⟩, HB.out⟩
   rw [List.length_map, List.map_map]
   exact HO2.out
set_option maxHeartbeats 4000000 in
theorem len0_any (w : World) : Calls Tryz.prog 124 #[.int .u64 0] w fun e w' => e = .returned (.int .i64 0) ∧ w' = w := by
 have T1 : Calls Tryz.prog 134 #[.int .u64 0] w fun e w' => e = .returned (.int .i64 0) ∧ w' = w := by
  go_enter Tryz.func134, Tryz.ntmps134
  go_wp2
  go_ret
  exact ⟨by kernel_rfl, rfl⟩
 have T1 := Lib.hid T1
 go_enter Tryz.func124, Tryz.ntmps124
 go_wp2_with fail
 refine T1.out.mono ?_
 rintro e w1 ⟨rfl, rfl⟩
 go_wp2
 go_ret
 exact ⟨rfl, rfl⟩
set_option maxHeartbeats 4000000 in
set_option maxRecDepth 100000 in
theorem sort0_any (a : Option Addr) (c : Nat) (w : World) : Calls Tryz.prog 102 #[.slice a 0 c] w fun e w' => e = .returned (.tuple #[]) ∧ w' = w := by
 have T1 : Calls Tryz.prog 139 #[.slice a 0 c, .int .i64 0, .int .i64 0] w fun e w' => e = .returned (.tuple #[]) ∧ w' = w := by
  go_enter Tryz.func139, Tryz.ntmps139
  go_wp2
  go_loopw [6] (fun p wr => p = .int .i64 1 ∧ wr = w) (fun p wr => 0)
  case atStart => exact ⟨rfl, rfl⟩
  case round =>
   obtain ⟨rfl, rfl⟩ := hrel
   go_wp2
   go_end0
   exact ⟨rfl, rfl⟩
 have T1 := Lib.hid T1
 have T2 : Calls Tryz.prog 123 #[.slice a 0 c, .int .i64 0, .int .i64 0, .int .i64 0] w fun e w' => e = .returned (.tuple #[]) ∧ w' = w := by
  go_enter Tryz.func123, Tryz.ntmps123
  go_wp2
  refine wp_loop_once ?_
  go_wp2_with fail
  refine T1.out.mono ?_
  rintro e w1 ⟨rfl, rfl⟩
  go_wp2
  refine bodyPost_ret (results_none rfl _ _ _) rfl ?_
  exact ⟨rfl, rfl⟩
 have T2 := Lib.hid T2
 have T3 := Lib.hid (len0_any w)
 go_enter Tryz.func102, Tryz.ntmps102
 go_wp2_with fail
 refine T3.out.mono ?_
 rintro e w1 ⟨rfl, rfl⟩
 go_wp2_with fail
 refine T2.out.mono ?_
 rintro e w1 ⟨rfl, rfl⟩
 go_wp2
 go_end0
 exact ⟨rfl, rfl⟩
theorem eqlStr (T : TypeId) : EqlAt Tryz.prog T encStr (fun x y => decide (x = y)) := by
 refine ⟨fun x y w => ?_, fun op a b x y w => (EqlAt.string Tryz.prog T).2 op a b ⟨x.toArray⟩ ⟨y.toArray⟩ w⟩
 have := (EqlAt.string Tryz.prog T).1 ⟨x.toArray⟩ ⟨y.toArray⟩ w
 rw [this]
 by_cases h : x = y <;> simp [h]
theorem neqStr (T : TypeId) : NeqAt Tryz.prog T encStr (fun x y => decide (x = y)) := by
 refine ⟨fun x y w => ?_, fun op a b x y w => (NeqAt.string Tryz.prog T).2 op a b ⟨x.toArray⟩ ⟨y.toArray⟩ w⟩
 have := (NeqAt.string Tryz.prog T).1 ⟨x.toArray⟩ ⟨y.toArray⟩ w
 rw [this]
 by_cases h : x = y <;> simp [h]
theorem compact_nodup {l : List (List UInt8)} (h : l.Nodup) : (compactUpTo l.toArray l.toArray.size) = l := by
 have : compact l = l := compact_all l (fun j hj => by
  unfold keeps
  rw [decide_eq_true_iff]
  by_cases h0 : j = 0
  ·
   exact .inl h0
  ·
   refine .inr (fun e => ?_)
   have h1 : l.toArray[j]! = l[j] := by simp [hj]
   have h2 : l.toArray[j - 1]! = l[j - 1] := by simp [show j - 1 < l.length by omega]
   rw [h1, h2] at e
   exact (List.pairwise_iff_getElem.1 h (j - 1) j (by omega) hj (by omega)) e.symm)
 simpa [compact] using this
set_option maxHeartbeats 4000000 in
set_option maxRecDepth 100000 in
theorem twice_any (B : Nat) (v : Value) (l : List (List UInt8)) (w : World) (hn : l.Nodup) (hl : l.length ≤ 1000000) (ho : w.ownsRow B 9 1 v l.length (l.map strV)) :
 Calls Tryz.prog 61 #[v] w fun e w' => e = .returned (.bool false) ∧ Fr (fun q => v.ownBlock = some q) w w' := by
 rcases ho.2 with ⟨h0, h1⟩ | ⟨g, cap, cur, hv, hg, hh, hc1, hc2, hc3, ht⟩
 ·
  subst h0
  have T1 := Lib.hid (sort0_any none 0 w)
  have T2 : Calls Tryz.prog 103 #[.slice none 0 0] w fun e w' => e = .returned (.slice none 0 0) ∧ w' = w := by
   go_enter Tryz.func103, Tryz.ntmps103
   go_wp2
   go_ret
   exact ⟨rfl, rfl⟩
  have T2 := Lib.hid T2
  clear ho
  go_enter Tryz.func61, Tryz.ntmps61
  go_wp2_with fail
  refine T1.out.mono ?_
  rintro e w1 ⟨rfl, rfl⟩
  go_wp2_with fail
  refine T2.out.mono ?_
  rintro e w1 ⟨rfl, rfl⟩
  go_wp2
  go_ret
  exact ⟨rfl, Fr.refl _ _⟩
 ·
  subst hv
  rw [Nat.mul_one] at ht
  have hperm : (l.mergeSort fun x y => decide (x ≤ y)).Perm l := List.mergeSort_perm l _
  have hts : (l.mergeSort fun x y => decide (x ≤ y)).Nodup := hperm.nodup_iff.2 hn
  have hlen : (l.mergeSort fun x y => decide (x ≤ y)).length = l.length := hperm.length_eq
  generalize hT : (l.mergeSort fun x y => decide (x ≤ y)) = ts at hts hlen
  have hgl : g < w.heap.size := (Array.getElem?_eq_some_iff.1 hh).1
  have T1 := Lib.hid ((Tryz.slices_Sort_string g 0 cap l w (holds_of_block hh ht) hgl (by omega)).mono (R' := fun e w' => e = .returned (.tuple #[]) ∧ w'.ownsRow B 9 1 (.slice (some ⟨g, 0, none⟩) l.length cap) l.length (ts.map strV) ∧ Fr (fun q => q = g) w w') (by
   rintro e w' ⟨rfl, n, os, rfl⟩
   rw [hT]
   exact ⟨rfl, ownsRow_sorted hlen hg hh (by simpa using hc1) hc2 hc3, Fr.of_grown (grownBy_sorted _) (fun q e => by injection e with e; exact e.symm)⟩))
  have T2 := Lib.hid (fun (W : World) (h : W.ownsRow B 9 1 (.slice (some ⟨g, 0, none⟩) l.length cap) l.length (ts.map strV)) => show Calls Tryz.prog 103 #[.slice (some ⟨g, 0, none⟩) l.length cap] W fun e w' => e = .returned (.slice (some ⟨g, 0, none⟩) l.length cap) ∧ Fr (fun q => q = g) W w' from by
   rcases h.2 with ⟨h0, _⟩ | ⟨g', cap', cur', hv', hg', hh', hc1', hc2', hc3', ht'⟩
   ·
    cases h0
   ·
    injection hv' with e1 e2 e3
    injection e1 with e1
    injection e1 with e1
    subst e1
    subst e3
    rw [Nat.mul_one, ← hlen] at ht'
    have := AnyE.slices_Compact Tryz.lCmp encStr (fun x => rfl) (eqlStr _) (neqStr _) [] (fun W => by kernel_rfl) g 0 cap ts.toArray W (holds_of_block hh' ht') (by simp; omega) (by simp; omega)
    rw [compact_nodup hts] at this
    have hsz : ts.toArray.size = l.length := by simpa using hlen
    rw [hsz] at this
    refine this.mono ?_
    rintro e w' ⟨rfl, q, rfl⟩
    exact ⟨by rw [hlen], frE encStr _⟩)
  clear ho hh hg hc1 hc2 hc3 ht
  go_enter Tryz.func61, Tryz.ntmps61
  go_wp2_with fail
  refine T1.out.mono ?_
  rintro e w1 ⟨rfl, ho1, hf1⟩
  have T3 := Lib.hid (T2.out w1 ho1)
  have HF1 := Lib.hid hf1
  clear T1 T2 ho1 hf1
  go_wp2_with fail
  refine T3.out.mono ?_
  rintro e w2 ⟨rfl, hf2⟩
  have HF2 := Lib.hid (HF1.out.trans hf2)
  clear T3 hf2
  go_wp2
  go_ret
  refine ⟨?_, HF2.out.imp (fun q _ e => by subst e; rfl)⟩
  simp
set_option maxHeartbeats 4000000 in
set_option maxRecDepth 100000 in
theorem type_any (ab : Nat) (M : Nat → Option Hg.Node) (id : Nat) (w : World) (hA : ArOk w ab M) (hid : id < idTop) (href : (ndAt M id).ref < idTop) :
 Calls Tryz.prog 69 #[.pointer (some ⟨ab, 0, none⟩), idV id] w fun e w' => e = .returned (.int .u8 (typeK M id : Int)) ∧ Below w.heap.size w w' := by
 have TG := Lib.hid (hA.getN hid)
 have HA := Lib.hid hA
 generalize hr : typeK M id = r
 unfold typeK at hr
 clear hA
 go_enter Tryz.func69, Tryz.ntmps69
 go_wp2_with fail
 refine TG.out.mono ?_
 rintro e w1 ⟨ka, kc, rfl, ho1, hb1⟩
 have hbn := boxed_node (w1 := w1) (ndAt M id) ka kc
 have hbw := hb1.alloc hb1.size (.cells #[.int .u8 ((ndAt M id).kind : Int), strV (ndAt M id).name, .int .i64 (ndAt M id).num, .int .u8 ((ndAt M id).type : Int), .int .u64 ((ndAt M id).ref : Int), .slice ka (ndAt M id).kids.length kc] 70)
 have c0 := hbn 0
 have c2 := hbn 2
 have c4 := hbn 4
 simp at c0 c2 c4
 have HB := Lib.hid hbw
 have T2 := Lib.hid ((HA.out.below hbw).getN href)
 generalize ndAt M id = nd at *
 obtain ⟨kd, nm, nu, ty, rf, ks⟩ := nd
 clear TG ho1 hb1 hbn hbw c0 c2 c4
 dsimp only at href HB T2 hr
 have HR := Lib.hid hr
 clear hr
 by_cases h13 : kd = 13
 ·
  subst h13
  go_wp2
  go_ret
  have hr := HR.out
  simp at hr
  subst hr
  exact ⟨rfl, HB.out⟩
 by_cases h17 : kd = 17
 ·
  subst h17
  go_wp2
  go_ret
  have hr := HR.out
  simp at hr
  subst hr
  exact ⟨rfl, HB.out⟩
 by_cases h20 : kd = 20
 ·
  subst h20
  go_wp2
  go_ret
  have hr := HR.out
  simp at hr
  subst hr
  exact ⟨rfl, HB.out⟩
 by_cases h14 : kd = 14
 ·
  subst h14
  go_wp2
  go_ret
  have hr := HR.out
  simp at hr
  subst hr
  exact ⟨rfl, HB.out⟩
 by_cases h16 : kd = 16
 ·
  subst h16
  go_wp2
  go_ret
  have hr := HR.out
  simp at hr
  subst hr
  exact ⟨rfl, HB.out⟩
 by_cases h18 : kd = 18
 ·
  subst h18
  by_cases h5 : nu ≤ 5
  ·
   go_wp2
   go_ret
   have hr := HR.out
   simp [h5] at hr
   subst hr
   exact ⟨rfl, HB.out⟩
  ·
   go_wp2
   go_ret
   have hr := HR.out
   simp at hr
   rw [if_neg (by omega)] at hr
   subst hr
   exact ⟨rfl, HB.out⟩
 have hq : ∀ n : Nat, kd ≠ n → ((kd : Int) == (n : Int)) = false := fun n h => by simpa using (show ¬ (kd : Int) = (n : Int) by omega)
 have q13 := hq 13 h13
 have q17 := hq 17 h17
 have q20 := hq 20 h20
 have q14 := hq 14 h14
 have q16 := hq 16 h16
 have q18 := hq 18 h18
 by_cases h15 : kd = 15
 ·
  subst h15
  clear q13 q17 q20 q14 q16 q18 hq
  go_wp2_with fail
  refine T2.out.mono ?_
  rintro e w2 ⟨ka2, kc2, rfl, ho2, hb2⟩
  have HB2 := Lib.hid ((HB.out.trans (hb2.mono HB.out.size)))
  clear T2 ho2 hb2
  go_wp2
  go_ret
  have hr := HR.out
  simp at hr
  subst hr
  exact ⟨rfl, HB2.out.alloc HB2.out.size _⟩
 by_cases h19 : kd = 19
 ·
  subst h19
  clear q13 q17 q20 q14 q16 q18 hq
  go_wp2_with fail
  refine T2.out.mono ?_
  rintro e w2 ⟨ka2, kc2, rfl, ho2, hb2⟩
  have HB2 := Lib.hid ((HB.out.trans (hb2.mono HB.out.size)))
  clear T2 ho2 hb2
  go_wp2
  go_ret
  have hr := HR.out
  simp at hr
  subst hr
  exact ⟨rfl, HB2.out.alloc HB2.out.size _⟩
 have q15 := hq 15 h15
 have q19 := hq 19 h19
 clear hq T2
 go_wp2
 go_ret
 have hr := HR.out
 rw [if_neg (by omega), if_neg (by omega), if_neg h18, if_neg (by omega)] at hr
 subst hr
 exact ⟨rfl, HB.out⟩
end Go.Proofs.YtoelmnamlnbdhaaGreatDoor
