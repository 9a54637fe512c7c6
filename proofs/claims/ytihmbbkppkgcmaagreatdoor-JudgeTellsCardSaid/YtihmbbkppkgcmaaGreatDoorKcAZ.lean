/-
  Part of a proof: contracts of functions that the claim reaches, and plain lemmas.
-/
import Derived.Test.YtihmbbkppkgcmaaGreatDoorKcAY
import Derived.Test.YtihmbbkppkgcmaaGreatDoorKcAA
set_option linter.all false
namespace Go.Proofs.YtihmbbkppkgcmaaGreatDoor
open Go.RowKit
inductive Chain (M : Nat → Option Hg.Node) (kind : Nat) : Nat → Nat → Prop
 | zero : Chain M kind 0 0
 | none (id : Nat) (h : M id = none) : Chain M kind id 0
 | hit (id : Nat) (n : Hg.Node) (h0 : id ≠ 0) (h : M id = some n) (hk : n.kind = kind) : Chain M kind id id
 | step (id : Nat) (n : Hg.Node) (p : Nat) (k : Int) (r : Nat) (h0 : id ≠ 0) (h : M id = some n) (hk : n.kind ≠ kind) (hp : ParIn M id (fun i => i < idTop) p k) (hr : Chain M kind p r) : Chain M kind id r
theorem ParIn.unique {M : Nat → Option Hg.Node} {id : Nat} {S : Nat → Prop} {p p' : Nat} {k k' : Int} (h : ParIn M id S p k) (h' : ParIn M id S p' k') : p = p' ∧ k = k' := by
 rcases h with ⟨h1, h2, h3⟩ | ⟨h1, h2, ⟨nd, hn, h3, h5⟩, h4⟩
 ·
  rcases h' with ⟨g1, g2, g3⟩ | ⟨g1, g2, ⟨nd', hn', g3, g5⟩, g4⟩
  ·
   exact ⟨h1.trans g1.symm, h2.trans g2.symm⟩
  ·
   have := h3 p' nd' g2 hn'; omega
 ·
  rcases h' with ⟨g1, g2, g3⟩ | ⟨g1, g2, ⟨nd', hn', g3, g5⟩, g4⟩
  ·
   have := g3 p nd h2 hn; omega
  ·
   have a1 := h4 p' nd' g2 hn' (by omega)
   have a2 := g4 p nd h2 hn (by omega)
   have e : p = p' := by omega
   subst e
   rw [hn] at hn'; injection hn' with hn'; subst hn'
   exact ⟨rfl, h3.symm.trans g3⟩
def SetAt (w : World) (sb n cur : Nat) : Prop := ∃ D, w.ownsMap Tryz.prog 28 rawR sb n D ∧ ∀ j, j ≤ cur → Maps.has D (idL j) = false
theorem SetAt.look {w : World} {sb n cur : Nat} (h : SetAt w sb n cur) (hc : cur < idTop) : (Instr.lookup 114 (.map (some sb)) (.int .u64 (cur : Int)) false).run Tryz.prog w = .ok (.bool false) w := by
 obtain ⟨D, ho, hs⟩ := h
 have hz : (zeroValue 4).run Tryz.prog w = .ok (.bool false) w := by kernel_rfl
 obtain ⟨v, ps, hrun, hv⟩ := ho.lookup keyedId Tryz.underlying114 hz (zd := .held (.bool false)) (zp := []) rfl (keyOf_id hc)
 rw [Maps.atKey_of_not_has (hs cur (Nat.le_refl _))] at hv
 simp only [rawR, Option.some.injEq, Prod.mk.injEq] at hv
 have e : v = .bool false := by simpa using hv.1
 rw [hrun, e]
theorem SetAt.put {w : World} {sb n cur : Nat} (h : SetAt w sb n cur) (hc : cur < idTop) (hn : n ≤ 1000000000) (p : Nat) (hp : p < cur) :
 ∃ w', (Instr.mapUpdate 114 (.map (some sb)) (.int .u64 (cur : Int)) (.bool true)).run Tryz.prog w = .ok () w' ∧ SetAt w' sb (n + 1) p ∧ w.grownBy w' (some sb) := by
 obtain ⟨D, ho, hs⟩ := h
 obtain ⟨w', hrun, ho', hg⟩ := ho.update keyedId Tryz.underlying114 (by unfold maxLen; omega) (keyOf_id hc) (val := .bool true) (d := .held (.bool true)) (ps := []) rfl
 refine ⟨w', hrun, ⟨_, ho', fun j hj => ?_⟩, hg⟩
 rw [Maps.has_put_other (idL_ne (by omega))]
 exact hs j (by omega)
theorem SetAt.below {w w' : World} {sb n cur B : Nat} (h : SetAt w sb n cur) (hb : Below B w w') (hB : w.heap.size ≤ B) : SetAt w' sb n cur := by
 obtain ⟨D, ho, hs⟩ := h
 exact ⟨D, ho.kept (below_grown (hb.mono hB) none) (by simp), hs⟩
theorem SetAt.lt {w : World} {sb n cur : Nat} (h : SetAt w sb n cur) : sb < w.heap.size := by
 obtain ⟨D, ho, _⟩ := h
 exact ho.lt
set_option maxHeartbeats 4000000 in
set_option maxRecDepth 100000 in
theorem above_any (ab mb c : Nat) (M : Nat → Option Hg.Node) (kind id r : Nat) (w : World) (hA : ArAt w ab mb c M) (hM0 : M 0 = none) (hid : id ≤ 1000000) (hkind : ∀ i n, M i = some n → n.kind ≤ 255) (hk255 : kind ≤ 255)
 (hdec : ∀ i n p k, M i = some n → ParIn M i (fun i => i < idTop) p k → p < i ∨ p = 0) (hch : Chain M kind id r) :
 Calls Tryz.prog 27 #[.pointer (some ⟨ab, 0, none⟩), .int .u64 (id : Int), .int .u8 (kind : Int)] w fun e w' => e = .returned (.int .u64 (r : Int)) ∧ Below w.heap.size w w' := by
 have hmm := @run_makeMap Tryz.prog
 have hlt := hA.lt
 have HA := Lib.hid hA
 have HM0 := Lib.hid hM0
 have HDEC := Lib.hid hdec
 have HCH := Lib.hid hch
 have HKD := Lib.hid hkind
 clear hA hM0 hdec hch hkind
 go_enter Tryz.func27, Tryz.ntmps27
 go_wp2
 have hb0 : Below w.heap.size w (w.alloc (.map #[] 0)) := (Below.refl _ _).alloc (Nat.le_refl _) _
 have hs0 : SetAt (w.alloc (.map #[] 0)) w.heap.size 0 id := ⟨.map [], World.ownsMap_made w _ _ _, fun j _ => rfl⟩
 clear hmm
 go_loopw [1] (fun p wr => ∃ (cur n : Nat), p = .int .u64 (cur : Int) ∧ cur ≤ 1000000 ∧ n + cur ≤ 2000000 ∧ SetAt wr w.heap.size n cur ∧ Chain M kind cur r ∧ Below w.heap.size w wr) (fun p wr => (intOf p).toNat)
 case atStart => exact ⟨id, 0, rfl, hid, by omega, hs0, HCH.out, hb0⟩
 case round =>
  obtain ⟨cur, n, rfl, hc6, hn6, hset, hch, hbw⟩ := hrel
  have HS := Lib.hid hset
  have hsb := hset.lt
  have hct : cur < idTop := by unfold idTop; omega
  clear hb0 hs0 hset HCH
  by_cases h0 : cur = 0
  ·
   subst h0
   have hr0 : r = 0 := by
    cases hch with
    | zero => rfl
    | none _ _ => rfl
    | hit _ _ h0 _ _ => exact absurd rfl h0
    | step _ _ _ _ _ h0 _ _ _ _ => exact absurd rfl h0
   subst hr0
   clear hch
   go_wp2
   go_ret
   exact ⟨rfl, hbw⟩
  ·
   have hq0 : ((cur : Int) == 0) = false := by simp; omega
   have hq0' : ((cur : Int) != 0) = true := by simp; omega
   have hlk := HS.out.look hct
   have hB : w.heap.size ≤ wr.heap.size := hbw.size
   have TG := get_any ab mb c M cur wr (HA.out.below hbw (Nat.le_refl _)) hct
   have HQ := Lib.hid h0
   clear h0
   cases hM : M cur with
   | none =>
     have hr0 : r = 0 := by
      cases hch with
      | zero => rfl
      | none _ _ => rfl
      | hit _ n _ h _ => rw [hM] at h; cases h
      | step _ n _ _ _ _ h _ _ _ => rw [hM] at h; cases h
     subst hr0
     rw [hM] at TG
     have TG := Lib.hid TG
     clear hch hM
     go_wp2_with fail
     refine TG.out.mono ?_
     rintro e w1 ⟨ka, kc, rfl, hs1, hb1⟩
     simp only [Option.getD_none, Option.isSome_none]
     have hb1' := hbw.trans (hb1.mono hB)
     clear hs1 hb1 hlk
     go_wp2
     go_ret
     exact ⟨rfl, hb1'.alloc hb1'.size _⟩
   | some nd =>
     rw [hM] at TG
     have TG := Lib.hid TG
     have hkn := HKD.out cur nd hM
     by_cases hk : nd.kind = kind
     ·
      have hr0 : r = cur := by
       cases hch with
       | zero => exact absurd rfl HQ.out
       | none _ h => rw [hM] at h; cases h
       | hit _ n _ h _ => rfl
       | step _ n _ _ _ _ h hk2 _ _ => rw [hM] at h; injection h with h; subst h; exact absurd hk hk2
      subst hr0
      have hk1 : ((nd.kind : Int) == (kind : Int)) = true := by simp [hk]
      clear hch hM hk
      go_wp2_with fail
      refine TG.out.mono ?_
      rintro e w1 ⟨ka, kc, rfl, hs1, hb1⟩
      simp only [Option.getD_some, Option.isSome_some]
      have hb1' := hbw.trans (hb1.mono hB)
      clear hs1 hb1 hlk
      go_wp2
      go_ret
      exact ⟨rfl, hb1'.alloc hb1'.size _⟩
     ·
      have hst : ∃ p k, ParIn M cur (fun i => i < idTop) p k ∧ Chain M kind p r := by
       cases hch with
       | zero => exact absurd rfl HQ.out
       | none _ h => rw [hM] at h; cases h
       | hit _ n _ h hk2 => rw [hM] at h; injection h with h; subst h; exact absurd hk2 hk
       | step _ n p k _ _ h _ hp hr => exact ⟨p, k, hp, hr⟩
      obtain ⟨p, k, hp, hr⟩ := hst
      have hpc : p < cur := by
       rcases HDEC.out cur nd p k hM hp with h | h
       ·
        exact h
       ·
        have := HQ.out; omega
      have HP := Lib.hid hp
      have HR := Lib.hid hr
      have hk1 : ((nd.kind : Int) == (kind : Int)) = false := by simp; omega
      clear hch hM hk hp hr
      go_wp2_with fail
      refine TG.out.mono ?_
      rintro e w1 ⟨ka, kc, rfl, hs1, hb1⟩
      simp only [Option.getD_some, Option.isSome_some]
      have hb1' := hbw.trans (hb1.mono hB)
      have hset2 : SetAt (w1.alloc (.cells #[.int .u8 (nd.kind : Int), strV nd.name, .int .i64 nd.num, .int .u8 (nd.type : Int), .int .u64 (nd.ref : Int), .slice ka nd.kids.length kc] 31)) w.heap.size n cur :=
       (HS.out.below hb1 (Nat.le_refl _)).below ((Below.refl _ _).alloc (Nat.le_refl _) _) (Nat.le_refl _)
      obtain ⟨W2, hrun2, hset3, hg2⟩ := hset2.put hct (by omega) p hpc
      have hb2 : Below w.heap.size w W2 := (hb1'.alloc hb1'.size _).grown hg2 (by have := hb1'.size; simp; omega) (fun k hk => by injection hk with hk; omega)
      have HS3 := Lib.hid hset3
      have TP := Lib.hid (arparent_any ab mb c M cur W2 (HA.out.below hb2 (Nat.le_refl _)) HM0.out)
      have hB2 := hb2.size
      clear hs1 hb1 hlk hset2 hg2 hset3
      go_wp2_with fail
      refine TP.out.mono ?_
      rintro e w3 ⟨p', k', hp', _, rfl, hb3⟩
      obtain ⟨rfl, rfl⟩ := HP.out.unique hp'
      have HS4 := Lib.hid (HS3.out.below hb3 (Nat.le_refl _))
      have hb4 := hb2.trans (hb3.mono hB2)
      clear hrun2 hp' hb3
      go_wp2
      go_roundw
      case rel => exact ⟨p, n + 1, rfl, by omega, by omega, HS4.out, HR.out, hb4⟩
      case measure => simp [intOf]; omega
end Go.Proofs.YtihmbbkppkgcmaaGreatDoor
namespace Go.Proofs.YtihmbbkppkgcmaaGreatDoor
open Go.RowKit
theorem expr9_succ (f : Nat) (ihE : ExprC f) (ihC : CallC f) : ExprC (f + 1) := by
 intro rb s u s' w he hR ho hdp hf hu
 rw [Hg.Rd.expr] at he
 by_cases h2 : s.text 2 ≠ []
 ·
  rw [if_pos h2] at he
  injection he with he
  subst he
  exact expr9_number rb s u w hR ho h2 hf hu
 rw [if_neg h2] at he
 have h2' : s.text 2 = [] := by simpa using h2
 by_cases h1 : s.text 1 ≠ []
 ·
  rw [if_pos h1] at he
  dsimp only at he
  by_cases hd : s.step.next [46] = true
  ·
   rw [if_pos hd] at he
   exact expr9_call rb s s' u w hR ho h2' h1 hd f ihC hdp he hf hu
  ·
   rw [if_neg hd] at he
   injection he with he
   exact expr9_var rb s s' u w hR ho h2' h1 (by simpa using hd) he.symm hf hu
 rw [if_neg h1] at he
 have h1' : s.text 1 = [] := by simpa using h1
 by_cases ht : s.next Hg.wTrue = true
 ·
  rw [if_pos ht] at he
  injection he with he
  exact expr9_true rb s s' u w hR ho h2' h1' ht he.symm hf hu
 rw [if_neg ht] at he
 have ht' : s.next Hg.wTrue = false := by simpa using ht
 by_cases hfa : s.next Hg.wFalse = true
 ·
  rw [if_pos hfa] at he
  injection he with he
  exact expr9_false rb s s' u w hR ho h2' h1' ht' hfa he.symm hf hu
 rw [if_neg hfa] at he
 have hfa' : s.next Hg.wFalse = false := by simpa using hfa
 by_cases hr : s.next Hg.wRead = true
 ·
  rw [if_pos hr] at he
  injection he with he
  exact expr9_read rb s s' u w hR ho h2' h1' ht' hfa' hr he.symm hf hu
 rw [if_neg hr] at he
 have hr' : s.next Hg.wRead = false := by simpa using hr
 by_cases h33 : s.next [33] = true
 ·
  rw [if_pos (.inl h33)] at he
  dsimp only at he
  rw [if_pos h33] at he
  by_cases hb : (s.step.node u (Hg.Rd.nd 16)).enter.bad = true
  ·
   rw [if_pos hb] at he
   injection he with he
   exact expr9_not_bad rb s s' u w hR ho h2' h1' ht' hfa' hr' h33 hb he.symm hdp hf hu
  ·
   rw [if_neg hb] at he
   cases hx : Hg.Rd.expr f (s.step.node u (Hg.Rd.nd 16)).enter s.rows.length with
   | none => rw [hx] at he; simp at he
   | some s1 =>
     rw [hx] at he
     injection he with he
     exact expr9_not_ok rb s s' u w hR ho h2' h1' ht' hfa' hr' h33 (by simpa using hb) f ihE s1 hx he.symm hdp hf hu
 have h33' : s.next [33] = false := by simpa using h33
 by_cases h45 : s.next [45] = true
 ·
  rw [if_pos (.inr h45)] at he
  dsimp only at he
  rw [if_neg h33] at he
  by_cases hb : (s.step.node u (Hg.Rd.nd 17)).enter.bad = true
  ·
   rw [if_pos hb] at he
   injection he with he
   exact expr9_neg_bad rb s s' u w hR ho h2' h1' ht' hfa' hr' h33' h45 hb he.symm hdp hf hu
  ·
   rw [if_neg hb] at he
   cases hx : Hg.Rd.expr f (s.step.node u (Hg.Rd.nd 17)).enter s.rows.length with
   | none => rw [hx] at he; simp at he
   | some s1 =>
     rw [hx] at he
     injection he with he
     exact expr9_neg_ok rb s s' u w hR ho h2' h1' ht' hfa' hr' h33' h45 (by simpa using hb) f ihE s1 hx he.symm hdp hf hu
 rw [if_neg (by simp [h33, h45])] at he
 have h45' : s.next [45] = false := by simpa using h45
 by_cases h40 : s.next [40] = true
 ·
  rw [if_pos h40] at he
  dsimp only at he
  by_cases hb : (s.step.node u (Hg.Rd.nd 18)).enter.bad = true
  ·
   rw [if_pos hb] at he
   injection he with he
   exact expr9_bin_bad rb s s' u w hR ho h2' h1' ht' hfa' hr' h33' h45' h40 hb he.symm hdp hf hu
  ·
   rw [if_neg hb] at he
   have hb' : (s.step.node u (Hg.Rd.nd 18)).enter.bad = false := by simpa using hb
   cases hx : Hg.Rd.expr f (s.step.node u (Hg.Rd.nd 18)).enter s.rows.length with
   | none => rw [hx] at he; simp at he
   | some s1 =>
     rw [hx] at he
     dsimp only at he
     by_cases hz : Hg.Rd.opOf (s1.text 4) = 0
     ·
      rw [if_pos hz] at he
      cases hy : Hg.Rd.expr f ((s1.setNum s.rows.length (Hg.Rd.opOf (s1.text 4) : Nat)).setBad).step s.rows.length with
      | none => rw [hy] at he; simp at he
      | some s4 =>
        rw [hy] at he
        injection he with he
        exact expr9_bin_zero rb s s' u w hR ho h2' h1' ht' hfa' hr' h33' h45' h40 hb' f ihE s1 s4 _ hx rfl hz hy he.symm hdp hf hu
     ·
      rw [if_neg hz] at he
      cases hy : Hg.Rd.expr f ((s1.setNum s.rows.length (Hg.Rd.opOf (s1.text 4) : Nat))).step s.rows.length with
      | none => rw [hy] at he; simp at he
      | some s4 =>
        rw [hy] at he
        injection he with he
        exact expr9_bin_ok rb s s' u w hR ho h2' h1' ht' hfa' hr' h33' h45' h40 hb' f ihE s1 s4 _ hx rfl hz hy he.symm hdp hf hu
 rw [if_neg h40] at he
 injection he with he
 subst he
 exact expr9_bad rb s s u w hR ho h2' h1' ht' hfa' hr' h33' h45' (by simpa using h40)
theorem expr9_all (f : Nat) : ExprC f ∧ CallC f := by
 induction f using Nat.strongRecOn with
 | _ f ih =>
   cases f with
   | zero => exact ⟨fun rb s u s' w he => by simp [Hg.Rd.expr] at he, fun rb s u m s' w he => by simp [Hg.Rd.call] at he⟩
   | succ f =>
     exact ⟨expr9_succ f (ih f (Nat.lt_succ_self f)).1 (ih f (Nat.lt_succ_self f)).2, call9_any f fun g hg => (ih g (by omega)).1⟩
theorem expr9_any (f : Nat) : ExprC f := (expr9_all f).1
theorem call9_all (f : Nat) : CallC f := (expr9_all f).2
end Go.Proofs.YtihmbbkppkgcmaaGreatDoor
namespace Go.Proofs.YtihmbbkppkgcmaaGreatDoor
open Go.RowKit
theorem bndInfo : (Tryz.prog.info? 181).map (fun i => (i.zero, i.size, i.bytes)) = some (some (.agg #[.string ⟨#[]⟩, .int .u64 0, .int .i64 0]), 3, 32) := by kernel_rfl
theorem bound_one (b : Hg.Bound) : ∀ u ∈ boundCells b, u.oneCell' = true := by
 intro u hu
 simp only [boundCells, List.mem_cons, List.not_mem_nil, or_false] at hu
 rcases hu with rfl | rfl | rfl <;> rfl
set_option maxHeartbeats 2000000 in
set_option maxRecDepth 100000 in
theorem declare9_any (rb : Nat) (s : Hg.Rd) (t : List UInt8) (k : Nat) (w : World) (hR : RdAt w rb s) (hu : s.used.length ≤ 10000000) (hs : s.seen.length ≤ 10000000) (hr : s.rows.length ≤ 10000000) (hk : k < s.rows.length) :
 Calls Tryz.prog 109 #[.pointer (some ⟨rb, 0, none⟩), strV t, .int .i64 (k : Int)] w fun e w' => e = .returned (.tuple #[]) ∧ RdAt w' rb (s.declare t k) ∧ Below rb w w' := by
 obtain ⟨j0, hj, hj0, hj1, hj2⟩ := info_parts bndInfo
 obtain ⟨k0, hk_, hk0, hk1, hk2⟩ := info_parts strInfo
 have hds : ∀ s1, (if Hg.inL s.used t then s.fault 10 else s) = s1 → s.declare t k = { s1 with used := s1.used ++ [t], seen := s1.seen ++ [⟨t, s1.idAt k, s1.level⟩] } := by
  intro s1 e; subst e; rfl
 obtain ⟨aU, cU, cell11, hU, _, _, _⟩ := hR.more_used
 have HU := Lib.hid hU
 clear hU
 have hlt0 := hR.lt
 go_enter Tryz.func109, Tryz.ntmps109
 go_upto_if 11 with (go_at_call 70; refine (has_any w.heap.size _ s.used t _ (Sl.of_own HU.out) (by omega)).mono ?_; rintro e w' ⟨rfl, rfl⟩)
 go_cut [] from 11 (fun wx => RdAt wx rb (if Hg.inL s.used t then s.fault 10 else s) ∧ Lite rb w wx)
 case first =>
  by_cases hin : Hg.inL s.used t = true
  ·
   rw [hin]
   go_wp2_with (go_at_call 71; refine (fault9_any rb s 10 _ hR).mono ?_; rintro e w1 ⟨rfl, hR1, hb1⟩)
   go_meet
   case rel => exact ⟨by rw [if_pos hin]; exact hR1, hb1⟩
  ·
   have hin2 : Hg.inL s.used t = false := by simpa using hin
   rw [hin2]
   clear hin
   go_wp2
   go_meet
   case rel => exact ⟨by rw [hin2]; exact hR, Lite.refl _ _⟩
 case rest =>
  obtain ⟨hR1, hL1⟩ := hcut
  have e1 : (if Hg.inL s.used t then s.fault 10 else s).rows.length = s.rows.length ∧ (if Hg.inL s.used t then s.fault 10 else s).used.length = s.used.length ∧ (if Hg.inL s.used t then s.fault 10 else s).seen.length = s.seen.length := by
   obtain ⟨e1, _, _, _, _, _, e7, e8, _⟩ := Hg.Rd.fault_same s 10
   split
   ·
    rw [e1, e7, e8]; exact ⟨rfl, rfl, rfl⟩
   ·
    exact ⟨rfl, rfl, rfl⟩
  have hds1 := hds _ rfl
  clear hds
  generalize (if Hg.inL s.used t then s.fault 10 else s) = s1 at *
  obtain ⟨er, eu, es⟩ := e1
  have hr1 : s1.rows.length ≤ 10000000 := by omega
  have hu1 : s1.used.length ≤ 10000000 := by omega
  have hs1 : s1.seen.length ≤ 10000000 := by omega
  have hk1' : k < s1.rows.length := by omega
  have hds := Lib.hid hds1
  have hB0 : Below rb w wc := hL1.below
  clear hds1 hR hL1 cell11 er eu es HU
  obtain ⟨a1, c1, k11, hown1, hrb1, _, hnew1⟩ := hR1.more_used
  have HO1 := Lib.hid hown1
  have HN1 := Lib.hid hnew1
  have f11 := hR1.frozen 11
  have hlt1 := hR1.lt
  have hne1 := Lib.hid (show some rb ≠ Value.ownBlock (.slice a1 s1.used.length c1) from fun e => absurd (hrb1 rb e.symm) (Nat.lt_irrefl _))
  clear hnew1 hrb1
  go_wp2_with (at_builtin; refine wpList_append_own_at _ rfl (.tmp 18) (.tmp 20) _ rfl (rb + 1) 9 k0 _ 1 16 Tryz.underlying58 hk_ hk0 hk1 hk2 rfl (by decide) _ _ _ rfl (HO1.out.alloc _) ⟨_, 0, none⟩ 1 1 [strV t] rfl rfl (cells_new _ _ _) ?_ ?_ ?_ ?_ ?_)
  ·
   intro u hu; simp only [List.mem_singleton] at hu; subst hu; rfl
  ·
   unfold maxLen; omega
  ·
   omega
  ·
   simp; omega
  intro v1 W1 own1 g1 _ at1
  obtain ⟨hR2, hB2⟩ := HN1.out _ W1 v1 t ((Below.refl _ _).alloc (Nat.le_refl _) _) own1 g1 (by simpa using at1)
  have d11 := g1.cell (alloc_cell k11 _) hne1.out
  have e11 : W1.frozen? ⟨rb, 11, none⟩ = false := by
   rw [World.frozen?_of_block (a := ⟨rb, 11, none⟩) (g1.block rb (by simp; omega) hne1.out)]
   rw [World.frozen?_of_block (a := ⟨rb, 11, none⟩) (Below.heap_alloc wc _ rb hlt1)]
   exact f11
  obtain ⟨q0, z0, rfl⟩ := ownsRow_succ own1
  clear own1 g1 at1 HO1 HN1 hne1 k11 f11 hR1 hown1
  go_upto_region 3 with fail
  generalize World.setCell W1 _ _ = W2 at hR2 hB2 ⊢
  have hBw : Below rb w W2 := hB0.trans hB2
  have hcid : s1.idAt k = s1.idAt k := rfl
  obtain ⟨a2, c2, k12, hown2, hrb2, hneR, hnew2⟩ := hR2.more_seen
  obtain ⟨g, c, k4, hg1, hg2, kid, _, _, _⟩ := hR2.forCell (k := k) (List.getElem?_eq_getElem hk1')
  obtain ⟨_, _, _, _, k13⟩ := hR2.cell
  dsimp only at k12 hown2 hrb2 hneR hnew2 k4 k13 kid
  have f12 := hR2.frozen 12
  have hlt2 := hR2.lt
  have ecid : s1.idAt k = (s1.rows[k]).id := idAt_get (List.getElem?_eq_getElem hk1')
  have HM0 := Lib.hid (show some rb ≠ Value.ownBlock (.slice a2 s1.seen.length c2) from fun e => absurd (hrb2 rb e.symm) (Nat.lt_irrefl _))
  have HM3 := Lib.hid (show some g ≠ Value.ownBlock (.slice a2 s1.seen.length c2) from fun e => hneR g _ _ k4 e.symm)
  have HO2 := Lib.hid hown2
  have HN2 := Lib.hid hnew2
  rw [← ecid] at kid
  clear hrb2 hneR hnew2 hown2 hR2 hB0 hB2 d11 e11 ecid
  generalize s1.idAt k = cid at *
  have hHeld : (fun w' => w'.cell? ⟨rb, 4, none⟩ = some (.slice (some ⟨g, 0, none⟩) s1.rows.length c) ∧ w'.cell? ⟨rb, 12, none⟩ = some (.slice a2 s1.seen.length c2) ∧ w'.cell? ⟨rb, 13, none⟩ = some (.int .i64 (s1.level : Int)) ∧ w'.cell? ⟨g, k * 7, none⟩ = some (.int .u64 (cid : Int))) (World.drew W2) := ⟨k4, k12, k13, kid⟩
  have hi1 : (0 : Int) ≤ (k : Int) := by omega
  have hi2 : (k : Int) < (s1.rows.length : Int) := by omega
  refine wp_region_two (fun w' => w'.cell? ⟨rb, 4, none⟩ = some (.slice (some ⟨g, 0, none⟩) s1.rows.length c) ∧ w'.cell? ⟨rb, 12, none⟩ = some (.slice a2 s1.seen.length c2) ∧ w'.cell? ⟨rb, 13, none⟩ = some (.int .i64 (s1.level : Int)) ∧ w'.cell? ⟨g, k * 7, none⟩ = some (.int .u64 (cid : Int))) 21 (by kernel_rfl) ?_
  refine tk 0 ?_ rfl (by kernel_rfl) (fun _ _ _ h => h) ‹_› ?_ ?_ (tk 1 ?_ rfl (by kernel_rfl) (fun _ _ _ h => h) ‹_› ?_ ?_ (tk 2 ?_ rfl (by kernel_rfl) (fun _ _ _ h => h) ‹_› ?_ ?_ (tk 3 ?_ rfl (by kernel_rfl) (fun _ _ _ h => h) ‹_› ?_ ?_ (tk 4 ?_ rfl (by kernel_rfl) (fun _ _ _ h => h) ‹_› ?_ ?_ (tk 5 ?_ rfl (by kernel_rfl) (fun _ _ _ h => h) ‹_› ?_ ?_ (tk 6 ?_ rfl (by kernel_rfl) (fun _ _ _ h => h) ‹_› ?_ ?_ (tk 7 ?_ rfl (by kernel_rfl) (fun _ _ _ h => h) ‹_› ?_ ?_ (tk 8 ?_ rfl (by kernel_rfl) (fun _ _ _ h => h) ‹_› ?_ ?_ (tk 9 ?_ rfl (by kernel_rfl) (fun _ _ _ h => h) ‹_› ?_ ?_ (tk 10 ?_ rfl (by kernel_rfl) (fun _ _ _ h => h) ‹_› ?_ ?_ (tk 11 ?_ rfl (by kernel_rfl) (fun _ _ _ h => h) ‹_› ?_ ?_ (tk 12 ?_ rfl (by kernel_rfl) (fun _ _ _ h => h) ‹_› ?_ ?_ (tk 13 ?_ rfl (by kernel_rfl) (fun _ _ _ h => h) ‹_› ?_ ?_ (tk 14 ?_ rfl (by kernel_rfl) (fun _ _ _ h => h) ‹_› ?_ ?_ (tk 15 ?_ rfl (by kernel_rfl) (fun _ _ _ h => h) ‹_› ?_ ?_ (tk 16 ?_ rfl (by kernel_rfl) (fun _ _ _ h => h) ‹_› ?_ ?_ (tk 17 ?_ rfl (by kernel_rfl) (fun _ _ _ h => h) ‹_› ?_ ?_ (tk 18 ?_ rfl (by kernel_rfl) (fun _ _ _ h => h) ‹_› ?_ ?_ ?_))))))))))))))))))
  all_goals try (first | rfl | ((try simp only [Act.put, sA, sB, sC]); intro w' hSw; (try dsimp only at hSw); go_simp; try with_reducible rfl))
  try simp only [Act.put, sA, sB, sC]
  refine wpAnyT_one (i := 19) rfl (by kernel_rfl) (fun K hK => ?_)
  go_simp
  generalize hWa : World.drew (World.alloc _ _) = Wa
  have hTa : ∀ j u, (boundCells ⟨t, cid, s1.level⟩)[j]? = some u → Wa.cell? ((⟨W2.heap.size, 0, none⟩ : Addr).add j) = some u := by rw [← hWa]; exact cells_new _ _ _
  have hBa : Below W2.heap.size W2 Wa := by rw [← hWa]; exact ((Below.refl _ _).alloc (Nat.le_refl _) _).drew
  clear hWa
  refine hK.out _ _ (⟨below_cell hBa (Nat.le_refl _) hHeld.1, below_cell hBa (Nat.le_refl _) hHeld.2.1, below_cell hBa (Nat.le_refl _) hHeld.2.2.1, below_cell hBa (Nat.le_refl _) hHeld.2.2.2⟩) (fun hHeld => ?_)
  clear hK K
  try simp only [Act.put, sA, sB, sC]
  refine wpAnyT_one (i := 20) rfl (by kernel_rfl) (fun K hK => ?_)
  refine step_append_own rfl (.tmp 28) (.tmp 43) _ rfl (rb + 1) 181 j0 _ 3 32 Tryz.underlying106 hj hj0 hj1 hj2 rfl (by decide) _ _ _ rfl (own_below HO2.out hBa (Nat.le_refl _)) ⟨_, 0, none⟩ 1 1 (boundCells ⟨t, cid, s1.level⟩) rfl rfl ?_ (bound_one _) ?_ ?_ ?_ ?_
  ·
   exact hTa
  ·
   unfold maxLen; omega
  ·
   omega
  ·
   have := hBa.size; omega
  intro v3 W3 own3 g3 at3
  have hFIN := HN2.out Wa W3 v3 ⟨t, cid, s1.level⟩ hBa own3 g3 at3
  refine hK.out _ _ (⟨g3.cell hHeld.1 HM0.out, g3.cell hHeld.2.1 HM0.out, g3.cell hHeld.2.2.1 HM0.out, g3.cell hHeld.2.2.2 HM3.out⟩) (fun hHeld => ?_)
  clear hK K
  try simp only [Act.put, sA, sB, sC]
  refine wpAnyT_tail (by kernel_rfl) ?_
  simp only [List.drop_succ_cons, List.drop_zero]
  have g12 := (World.frozen?_of_block (a := ⟨rb, 12, none⟩) ((g3.block rb (by have := hBa.size; omega) HM0.out).trans (hBa.block rb (by omega)))).trans f12
  have FIN := Lib.hid hFIN
  obtain ⟨d4, d12, d13, dg⟩ := hHeld
  obtain ⟨q1, z1, rfl⟩ := ownsRow_succ own3
  clear hFIN g3 hBa own3 at3 f12 HO2 HN2 kid hTa k4 k12 k13
  go_wp2_with fail
  go_end0
  rw [hds.out]
  exact ⟨rfl, FIN.out.1, hBw.trans FIN.out.2⟩
end Go.Proofs.YtihmbbkppkgcmaaGreatDoor
namespace Go.Proofs.YtihmbbkppkgcmaaGreatDoor
open Go.RowKit
theorem RdAt.turnSeen {w w1 : World} {rb B : Nat} {s : Hg.Rd} (h : RdAt w rb s) (hb : Below w.heap.size w w1) (hB : w.heap.size ≤ B) (l : List Hg.Bound) {v' : Value} (ho : w1.ownsRow B 181 3 v' l.length (l.flatMap boundCells)) :
 RdAt (w1.setCell ⟨rb, 12, none⟩ v') rb { s with seen := l } ∧ Below rb w (w1.setCell ⟨rb, 12, none⟩ v') := by
 have hlt := h.lt
 obtain ⟨vL, vR, vM, vF, vI, vC, vW, vU, vS, ks, h1, h2, h3, h4⟩ := h
 have hrow : ∀ b, b ≤ rb → w1.heap[b]? = w.heap[b]? := fun b hbl => hb.block b (by omega)
 have ho' : w1.ownsRow (rb + 1) 181 3 v' l.length (l.flatMap boundCells) := by
  refine ⟨ho.1, ?_⟩
  rcases ho.2 with hn | ⟨g, cap, cur, hv, hbb, rest⟩
  ·
   exact .inl hn
  ·
   exact .inr ⟨g, cap, cur, hv, by omega, rest⟩
 have h5 := OwnAll.turn (l1 := [⟨vR, 33, 7, s.rows.length, rowsCells s.rows ks⟩, ⟨vM, 9, 1, s.mods.length, s.mods.map strV⟩, ⟨vF, 9, 1, s.funcs.length, s.funcs.map strV⟩,
  ⟨vI, 28, 1, s.ids.length, s.ids.map idV⟩, ⟨vC, 28, 1, s.calls.length, s.calls.map idV⟩, ⟨vW, 9, 1, s.wants.length, s.wants.map strV⟩,
  ⟨vU, 9, 1, s.used.length, s.used.map strV⟩]) (o := ⟨vS, 181, 3, s.seen.length, s.seen.flatMap boundCells⟩) (l2 := kidsOwn s.rows ks) (o' := ⟨v', 181, 3, l.length, l.flatMap boundCells⟩) h4 ho'
   ⟨hb.os, hb.tape, hb.output, hb.size, fun b hbl _ => hb.block b hbl⟩ (fun g hg => .inr (by have := (ho.lt g hg).1; omega))
 have h6 := h5.setCell (p := ⟨rb, 12, none⟩) (Nat.lt_succ_self _) v'
 refine ⟨⟨vL, vR, vM, vF, vI, vC, vW, vU, v', ks, ?_, ?_, h3, ?_⟩, ?_⟩
 ·
  exact heap_setCell_same ((hrow rb (Nat.le_refl _)).trans h1) v'
 ·
  exact (h2.keep fun p hp => World.cell?_of_block (hrow p.block (by omega))).setCell (p := ⟨rb, 12, none⟩) (Nat.le_refl _) _
 ·
  simpa [rdOwn] using h6
 ·
  exact (show Below rb w w1 from hb.mono (Nat.le_of_lt hlt)).setCell (p := ⟨rb, 12, none⟩) (Nat.le_refl _) _
def StmtC (f : Nat) : Prop := ∀ (rb : Nat) (s : Hg.Rd) (u : Nat) (s' : Hg.Rd) (w : World), Hg.Rd.stmt f s u = some s' → RdAt w rb s → Okk s → s.deep ≤ 90 → s.level ≤ s.deep → Fin_ s' → u < s.rows.length →
 Calls Tryz.prog 110 #[.pointer (some ⟨rb, 0, none⟩), .int .i64 (u : Int)] w fun e w' => e = .returned (.tuple #[]) ∧ RdAt w' rb s' ∧ Below rb w w'
def BlockC (f : Nat) : Prop := ∀ (rb : Nat) (s : Hg.Rd) (u : Nat) (s' : Hg.Rd) (w : World), Hg.Rd.block f s u = some s' → RdAt w rb s → Okk s → s.deep ≤ 90 → s.level ≤ s.deep → Fin_ s' → u < s.rows.length →
 Calls Tryz.prog 136 #[.pointer (some ⟨rb, 0, none⟩), .int .i64 (u : Int)] w fun e w' => e = .returned (.tuple #[]) ∧ RdAt w' rb s' ∧ Below rb w w'
def StmtsR (rb n : Nat) (sE : Hg.Rd) (f : Nat) (w0 : World) (k : Nat) (wr : World) : Prop :=
 ∃ (t : Hg.Rd), Hg.Rd.stmts k t n = some sE ∧ RdAt wr rb t ∧ Okk t ∧ t.deep ≤ 90 ∧ t.level ≤ t.deep ∧ n < t.rows.length ∧ Below rb w0 wr ∧ k ≤ f
def ShutR (l : List Hg.Bound) (lv : Nat) (w0 : World) (v i : Value) (wr : World) : Prop :=
 ∃ k : Nat, k ≤ l.length ∧ i = .int .i64 (k : Int) ∧ Below w0.heap.size w0 wr ∧
   wr.ownsRow w0.heap.size 181 3 v ((l.take k).filter (fun b => b.deep < lv)).length (((l.take k).filter (fun b => b.deep < lv)).flatMap boundCells)
theorem Okk.ss {s a s' : Hg.Rd} (h : Okk s) (e : Hg.Rd.SStep s a) (g : Hg.Rd.Grow a s') (hf : Fin_ s') : Okk a :=
 ⟨e.inv h.inv, hf.of g, by rw [e.deep]; exact h.deep, by rw [e.level]; exact h.level⟩
theorem RdAt.level9 {w : World} {rb : Nat} {s : Hg.Rd} (h : RdAt w rb s) {x : Int} (n : Nat) (hx : x = (n : Int)) : RdAt (w.setCell ⟨rb, 13, none⟩ (.int .i64 x)) rb { s with level := n } := by
 subst hx; exact h.setLevel n
theorem filter_take (l : List Hg.Bound) (p : Hg.Bound → Bool) (k : Nat) (hk : k < l.length) : (l.take (k + 1)).filter p = (l.take k).filter p ++ (if p l[k] then [l[k]] else []) := by
 rw [List.take_succ_eq_append_getElem hk, List.filter_append]
 congr 1
 by_cases h : p l[k] = true
 ·
  simp [h]
 ·
  simp [h]
set_option maxHeartbeats 2000000 in
set_option maxRecDepth 100000 in
theorem block9_any (f : Nat) (ihS : ∀ g, g ≤ f → StmtC g) : BlockC (f + 1) := by
 intro rb s u s' w he hR ho hdp hlv hf hu
 rw [Hg.Rd.block] at he
 try dsimp only at he
 change (if (s.head u).enter.bad = true then some (s.head u).enter.leave.shut else (Hg.Rd.stmts f ((s.head u).enter.need [123]) s.rows.length).map (fun r => r.leave.shut)) = some s' at he
 have hend : ∃ sE, s' = sE.leave.shut ∧ (((s.head u).enter.bad = true ∧ sE = (s.head u).enter) ∨ ((s.head u).enter.bad = false ∧ Hg.Rd.stmts f ((s.head u).enter.need [123]) s.rows.length = some sE)) := by
  by_cases hb : (s.head u).enter.bad = true
  ·
   rw [if_pos hb] at he
   injection he with he
   exact ⟨_, he.symm, .inl ⟨hb, rfl⟩⟩
  ·
   rw [if_neg hb] at he
   cases hx : Hg.Rd.stmts f ((s.head u).enter.need [123]) s.rows.length with
   | none => rw [hx] at he; simp at he
   | some a =>
     rw [hx] at he
     injection he with he
     exact ⟨a, he.symm, .inr ⟨by simpa using hb, rfl⟩⟩
 obtain ⟨sE, hsE, hways⟩ := hend
 clear he
 obtain ⟨i0, hi, hz0, hz1, hz2⟩ := info_parts bndInfo
 have hn := Hg.Rd.es_node s u (Hg.Rd.nd 5) (Hg.Rd.kids_nd 5)
 have hst : Hg.Rd.SStep (s.head u).enter sE := by
  rcases hways with ⟨_, e⟩ | ⟨_, e⟩
  ·
   rw [e]; exact Hg.Rd.SStep.refl _
  ·
   exact (Hg.Rd.es_need _ _).s.trans ((Hg.Rd.stmt_ss f).2.2 _ _ _ e)
 have gE : Hg.Rd.Grow sE s' := by rw [hsE]; exact (Hg.Rd.grow_leave _).trans (Hg.Rd.grow_shut _)
 have gh : Hg.Rd.Grow (s.head u) sE := (Hg.Rd.grow_enter _).trans hst.grow
 have ho1 : Okk (s.node u (Hg.Rd.nd 5)) := ho.es hn ((Hg.Rd.setLevel_grow _ _).trans (gh.trans gE)) hf
 have hlv1 : (s.node u (Hg.Rd.nd 5)).level = s.level := hn.level
 have hdp1 : (s.node u (Hg.Rd.nd 5)).deep = s.deep := hn.deep
 have hlh : (s.head u).level = s.level + 1 := by show (s.node u (Hg.Rd.nd 5)).level + 1 = _; rw [hlv1]
 have hdh : (s.head u).deep = s.deep := hdp1
 have oh : Okk (s.head u) := ⟨Hg.Rd.setLevel_inv ho1.inv _, hf.of (gh.trans gE), by rw [hdh]; omega, by rw [hlh]; omega⟩
 have ohe : Okk (s.head u).enter := oh.enter (by omega) (hst.grow.trans gE) hf
 have hnl : s.rows.length < (s.head u).rows.length := by show _ < (s.node u (Hg.Rd.nd 5)).rows.length; rw [Hg.Rd.len_node]; omega
 have hlE : sE.level = s.level + 1 := by rw [hst.level, enter_level, hlh]
 have hdE : sE.deep = s.deep + 1 := by rw [hst.deep, enter_deep, hdh]
 have hiE : Hg.Rd.Inv sE := hst.inv ohe.inv
 have hfE : Fin_ sE := hf.of gE
 have hseen : sE.seen.length ≤ 10000000 := by have := hiE.seen; have := hiE.used; have := hfE.rows; omega
 have TN := fun W h => Lib.hid (node9_n (rb := rb) (s := s) (under := u) s.rows.length (Hg.Rd.nd 5) (w := W) h ho rfl hu rfl)
 have TQ := fun W h => Lib.hid (enter9_ok (rb := rb) (s := s.head u) (w := W) h oh rfl)
 go_enter Tryz.func136, Tryz.ntmps136
 go_upto_if 20 with (first
  | (go_at_call 67; refine ((TN _ hR).out).mono ?_; rintro e w1 ⟨rfl, hR1, hb1⟩; obtain ⟨_, _, _, _, c13⟩ := hR1.cell; have f13 := hR1.frozen 13; rw [hlv1] at c13)
  | (go_at_call 139; refine ((TQ _ (hR1.level9 (s.level + 1) (by omega))).out).mono ?_; rintro e w2 ⟨rfl, hR2, hb2⟩))
 go_cut [] from 20 (fun wx => RdAt wx rb sE ∧ Below rb w2 wx)
 case first =>
  rcases hways with ⟨hb, e⟩ | ⟨hb, e⟩
  ·
   rw [hb]
   rw [← e] at hR2
   go_wp2
   go_meet
   case rel => exact ⟨hR2, Below.refl _ _⟩
  ·
   rw [hb]
   have ohn : Okk ((s.head u).enter.need [123]) := ohe.es (Hg.Rd.es_need _ _) (((Hg.Rd.stmt_ss f).2.2 _ _ _ e).grow.trans gE) hf
   have hdn : ((s.head u).enter.need [123]).deep ≤ 90 := by rw [(Hg.Rd.es_need _ _).deep]; exact enter_deep_le hb
   have hvn : ((s.head u).enter.need [123]).level ≤ ((s.head u).enter.need [123]).deep := by rw [(Hg.Rd.es_need _ _).deep, (Hg.Rd.es_need _ _).level, enter_deep, enter_level, hlh, hdh]; omega
   have hln : s.rows.length < ((s.head u).enter.need [123]).rows.length := Nat.lt_of_lt_of_le hnl (by have := (Hg.Rd.grow_need (s.head u).enter [123]).len; rw [enter_rows] at this; exact this)
   have TD := fun W h => Lib.hid (need9_ok (rb := rb) (s := (s.head u).enter) (t := [123]) (w := W) h ohe)
   clear hb TN TQ
   generalize (s.head u).enter.need [123] = t0 at *
   go_wp2_with (go_at_call 68; refine ((TD _ hR2).out).mono ?_; rintro e w3 ⟨rfl, hR3, hb3⟩)
   go_loopg [32] f (fun k _ wr => StmtsR rb s.rows.length sE f w3 k wr)
   case atStart => exact ⟨t0, e, hR3, ohn, hdn, hvn, hln, Below.refl _ _, Nat.le_refl _⟩
   case round =>
    obtain ⟨t, hargs, hRt, hot, hdt, hvt, hlt, hBt, hkf⟩ := hrel
    obtain ⟨_, _, c3, _, _⟩ := hRt.cell
    cases gk with
    | zero => simp [Hg.Rd.stmts] at hargs
    | succ k =>
      rw [Hg.Rd.stmts] at hargs
      by_cases hbad : t.bad = true
      ·
       rw [if_pos hbad] at hargs
       injection hargs with hargs
       subst hargs
       rw [hbad] at c3
       clear hbad
       go_wp2
       go_meet
       case rel => exact ⟨hRt, hb3.below.trans hBt⟩
      rw [if_neg hbad] at hargs
      have hbf : t.bad = false := by simpa using hbad
      rw [hbf] at c3
      clear hbad hbf
      by_cases hn : t.next [125] = true
      ·
       rw [if_pos hn] at hargs
       injection hargs with hargs
       have TE := fun W h => Lib.hid (eat9_yes (rb := rb) (s := t) (t := [125]) (w := W) h hot hn)
       rw [hargs] at TE
       clear hn
       go_wp2_with (go_at_call 72; refine ((TE _ hRt).out).mono ?_; rintro e w7 ⟨rfl, hR7, hb7⟩)
       go_meet
       case rel => exact ⟨hR7, (hb3.below.trans hBt).trans hb7.below⟩
      rw [if_neg hn] at hargs
      have hnf : t.next [125] = false := by simpa using hn
      clear hn
      have TE := fun W h => Lib.hid (eat9_no (rb := rb) (s := t) (t := [125]) (w := W) h hot hnf)
      clear hnf
      cases hx : Hg.Rd.stmt k t s.rows.length with
      | none => rw [hx] at hargs; simp at hargs
      | some t1 =>
        rw [hx] at hargs
        dsimp only at hargs
        have ex := (Hg.Rd.stmt_ss k).1 _ _ _ hx
        have ey := (Hg.Rd.stmt_ss k).2.2 _ _ _ hargs
        have hft : Fin_ t1 := hfE.of ey.grow
        have hot1 : Okk t1 := hot.ss ex ey.grow hfE
        have TX := fun W h => Lib.hid (ihS k (by omega) rb t s.rows.length t1 W hx h hot hdt hvt hft hlt)
        go_wp2_with (first
         | (go_at_call 72; refine ((TE _ hRt).out).mono ?_; rintro e w7 ⟨rfl, hR7, hb7⟩)
         | (go_at_call 110; refine ((TX _ hR7).out).mono ?_; rintro e w8 ⟨rfl, hR8, hb8⟩))
        go_roundg k
        case measure => omega
        case rel => exact ⟨t1, hargs, hR8, hot1, (by rw [ex.deep]; exact hdt), (by rw [ex.level, ex.deep]; exact hvt), Nat.lt_of_lt_of_le hlt ex.grow.len, hBt.trans (hb7.below.trans hb8), by omega⟩
 case rest =>
  obtain ⟨hRE, hBE⟩ := hcut
  have hBw : Below rb w wc := hb1.trans ((((Below.refl _ _).setCell (p := ⟨rb, 13, none⟩) (Nat.le_refl _) _).trans hb2).trans hBE)
  clear hways TN TQ hR hR1 hR2 hb1 hb2 hBE c13 f13 hn hst gh ho1 oh ohe
  obtain ⟨_, c2, _, _, c13⟩ := hRE.cell
  have f2 := hRE.frozen 2
  have f12 := hRE.frozen 12
  have f13 := hRE.frozen 13
  have HRE := Lib.hid hRE
  have hltE := hRE.lt
  rw [hdE] at c2
  rw [hlE] at c13
  have hR5 : RdAt (wc.setCell ⟨rb, 2, none⟩ (.int .i64 (s.deep : Int))) rb sE.leave := hRE.leave9 (by omega) (by omega)
  clear hRE
  have hB5 : Below rb w (wc.setCell ⟨rb, 2, none⟩ (.int .i64 (s.deep : Int))) := hBw.setCell (p := ⟨rb, 2, none⟩) (Nat.le_refl _) _
  have h5 : ∃ aS cS, wc.cell? ⟨rb, 12, none⟩ = some (.slice aS sE.seen.length cS) ∧ ∀ (k : Nat) (hk : k < sE.seen.length), ∃ g, aS = some ⟨g, 0, none⟩ ∧
   (wc.setCell ⟨rb, 2, none⟩ (.int .i64 (s.deep : Int))).cell? ⟨g, k * 3, none⟩ = some (strV sE.seen[k].name) ∧ (wc.setCell ⟨rb, 2, none⟩ (.int .i64 (s.deep : Int))).cell? ⟨g, k * 3 + 1, none⟩ = some (.int .u64 (sE.seen[k].id : Int)) ∧
   (wc.setCell ⟨rb, 2, none⟩ (.int .i64 (s.deep : Int))).cell? ⟨g, k * 3 + 2, none⟩ = some (.int .i64 (sE.seen[k].deep : Int)) := by
   obtain ⟨a', c', k12', hs'⟩ := hR5.forSeen
   refine ⟨a', c', ?_, hs'⟩
   rw [World.cell?_setCell_other wc ⟨rb, 2, none⟩ ⟨rb, 12, none⟩ _ (by simp)] at k12'
   exact k12'
  obtain ⟨aS, cS, k12, hsc⟩ := h5
  have HSC := Lib.hid hsc
  clear hsc
  go_upto_block 2 with fail
  obtain ⟨_, _, _, _, k13⟩ := hR5.cell
  have f12 := hR5.frozen 12
  have f13 := hR5.frozen 13
  have hlt5 := hR5.lt
  have k13' : (wc.setCell ⟨rb, 2, none⟩ (.int .i64 (s.deep : Int))).cell? ⟨rb, 13, none⟩ = some (.int .i64 ((s.level : Int) + 1)) := by
   rw [k13]; show some (Value.int .i64 (sE.level : Int)) = _; rw [hlE]; simp
  clear k13 k12 c2 c13 hBw HRE
  generalize World.setCell wc _ _ = W5 at *
  go_cut [5] from 36 (fun v wx => ∃ n, Below W5.heap.size W5 wx ∧ wx.ownsRow W5.heap.size 181 3 v n (((sE.seen).filter (fun b => b.deep < s.level + 1)).flatMap boundCells) ∧ n = ((sE.seen).filter (fun b => b.deep < s.level + 1)).length)
  case first =>
   go_wp2_with fail
   go_loopw [5, 48] (fun v i wr => ShutR sE.seen (s.level + 1) W5 v i wr) (fun _ i _ => sE.seen.length - (intOf i).toNat)
   case atStart => exact ⟨0, by omega, rfl, Below.refl _ _, by simpa using World.ownsRow_nil _ _ _ _⟩
   case round =>
    obtain ⟨k, hk, rfl, hbr, hown⟩ := hrel
    have r13 := below_cell hbr (Nat.le_refl _) k13'
    by_cases hlt : k < sE.seen.length
    ·
     obtain ⟨g, rfl, d0, d1, d2⟩ := HSC.out k hlt
     have e0 := below_cell hbr (Nat.le_refl _) d0
     have e1 := below_cell hbr (Nat.le_refl _) d1
     have e2 := below_cell hbr (Nat.le_refl _) d2
     have hft := Lib.hid (filter_take sE.seen (fun b => decide (b.deep < s.level + 1)) k hlt)
     have hnl2 : ((sE.seen.take k).filter (fun b => decide (b.deep < s.level + 1))).length ≤ 10000000 := Nat.le_trans (List.length_filter_le _ _) (by simp; omega)
     clear d0 d1 d2
     have hi1 : (0 : Int) ≤ (k : Int) := by omega
     have hi2 : (k : Int) < (sE.seen.length : Int) := by omega
     generalize sE.seen[k] = bd at *
     have hltr : rb < wr.heap.size := Nat.lt_of_lt_of_le hlt5 hbr.size
     go_upto_region 11 with fail
     have qn : ∀ j u, [strV bd.name, .int .u64 (bd.id : Int), .int .i64 (bd.deep : Int)][j]? = some u → (wr.alloc (.cells #[strV bd.name, .int .u64 (bd.id : Int), .int .i64 (bd.deep : Int)] 181)).cell? ⟨wr.heap.size, j, none⟩ = some u := by
      intro j u hj
      rw [cell_of_row _ wr.heap.size j _ 181 (0, 0) (heap_alloc_new wr _)]
      simpa using hj
     have q0 := qn 0 _ rfl
     have q1 := qn 1 _ rfl
     have q2 := qn 2 _ rfl
     have q13 := alloc_cell r13 (.cells #[strV bd.name, .int .u64 (bd.id : Int), .int .i64 (bd.deep : Int)] 181)
     have qb : Below wr.heap.size wr (wr.alloc (.cells #[strV bd.name, .int .u64 (bd.id : Int), .int .i64 (bd.deep : Int)] 181)) := (Below.refl _ _).alloc (Nat.le_refl _) _
     clear qn
     generalize World.alloc wr _ = WB at *
     by_cases hq : bd.deep < s.level + 1
     ·
      have hq1 : decide ((bd.deep : Int) < (s.level : Int) + 1) = true := by simp; omega
      have hres := Lib.hid (show (sE.seen.take (k + 1)).filter (fun b => decide (b.deep < s.level + 1)) = (sE.seen.take k).filter (fun b => decide (b.deep < s.level + 1)) ++ [bd] by rw [hft.out]; simp [hq])
      clear hft
      go_quiet (fail)
      go_wp2_with (at_builtin; refine wpList_append_own_at _ rfl (.tmp 59) (.tmp 61) _ rfl W5.heap.size 181 i0 _ 3 32 Tryz.underlying106 hi hz0 hz1 hz2 rfl (by decide) _ _ _ rfl ((own_below hown (below_drewN qb nq) (Nat.le_refl _)).alloc _) ⟨_, 0, none⟩ 1 1 (boundCells bd) rfl rfl (cells_new _ _ _) ?_ ?_ ?_ ?_ ?_)
      ·
       exact bound_one _
      ·
       unfold maxLen; omega
      ·
       omega
      ·
       have := hbr.size; have := qb.size; simp; omega
      intro v2 w2 hown2 hg2 _ _
      have hb2 : Below W5.heap.size W5 w2 := ((hbr.trans ((below_drewN qb nq).mono hbr.size)).alloc (by have := hbr.size; have := qb.size; simp; omega) _).grown hg2 (by have := hbr.size; have := qb.size; simp; omega) (fun q hq => (hown.lt q hq).1)
      clear q0 q1 q2 q13 hg2
      go_wp2
      go_roundw
      case rel =>
       refine ⟨k + 1, by omega, by go_num, hb2, ?_⟩
       rw [hres.out, List.flatMap_append, List.length_append]
       simpa using hown2
      case measure => simp [intOf]; omega
     ·
      have hq1 : decide ((bd.deep : Int) < (s.level : Int) + 1) = false := by simp; omega
      have hres := Lib.hid (show (sE.seen.take (k + 1)).filter (fun b => decide (b.deep < s.level + 1)) = (sE.seen.take k).filter (fun b => decide (b.deep < s.level + 1)) by rw [hft.out]; simp [hq])
      clear hft
      go_quiet (fail)
      go_wp2
      go_roundw
      case rel =>
       refine ⟨k + 1, by omega, by go_num, hbr.trans ((below_drewN qb nq).mono hbr.size), ?_⟩
       rw [hres.out]
       exact own_below hown (below_drewN qb nq) (Nat.le_refl _)
      case measure => simp [intOf]; omega
    ·
     obtain rfl : k = sE.seen.length := by omega
     rw [List.take_length] at hown
     go_wp2
     go_meet
     case rel => exact ⟨_, hbr, hown, rfl⟩
  case rest =>
   obtain ⟨n, hbx, hownx, rfl⟩ := hcut
   obtain ⟨hRx, hBx⟩ := hR5.turnSeen hbx (Nat.le_refl _) _ hownx
   have hsh : s' = { ({ sE.leave with seen := (sE.seen).filter (fun b => decide (b.deep < s.level + 1)) } : Hg.Rd) with level := s.level } := by
    rw [hsE]
    show ({ sE.leave with seen := sE.seen.filter (fun b => b.deep < sE.level), level := sE.level - 1 } : Hg.Rd) = _
    rw [hlE]
    rfl
   have HSH := Lib.hid hsh
   obtain ⟨a', c', y12, _⟩ := hR5.forSeen
   have z12 := below_cell hbx (Nat.le_refl _) y12
   have z13 := below_cell hbx (Nat.le_refl _) k13'
   have g12 := (World.frozen?_of_block (a := ⟨rb, 12, none⟩) (hbx.block rb hlt5)).trans f12
   have g13 := (World.frozen?_of_block (a := ⟨rb, 13, none⟩) (hbx.block rb hlt5)).trans f13
   obtain ⟨q5, z5, rfl⟩ := (Sl.of_own hownx).form
   clear y12 f12 f13 k13' hownx hbx hsh hsE HSC hR5
   go_wp2
   go_end0
   rw [HSH.out]
   exact ⟨rfl, hRx.level9 s.level (by omega), (hB5.trans hBx).setCell (p := ⟨rb, 13, none⟩) (Nat.le_refl _) _⟩
end Go.Proofs.YtihmbbkppkgcmaaGreatDoor
