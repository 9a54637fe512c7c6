/-
  Part of a proof of RunLoops: contracts of functions that the claim reaches, and plain lemmas.
-/
import Derived.Test.YtoelmnamlnbdhaaGreatDoorKfBM
set_option linter.all false
namespace Hg
def namesW (xs : List (Nat × Node)) : List Str := (xs.filter fun x => x.2.kind == 4 || x.2.kind == 6).map fun x => x.2.name
end Hg
namespace Go.Proofs.YtoelmnamlnbdhaaGreatDoor
open Go.RowKit
open Hg (GT gl wk isK ndAt kidsK modsK funcsK KB nameK typeK namesW)
attribute [local go_sem] Oper.semAt_some
theorem namesW_snoc (l : List (Nat × Hg.Node)) (p : Nat × Hg.Node) : namesW (l ++ [p]) = namesW l ++ (if p.2.kind == 4 || p.2.kind == 6 then [p.2.name] else []) := by
 unfold namesW
 rw [List.filter_append, List.map_append]
 congr 1
 by_cases h : (p.2.kind == 4 || p.2.kind == 6) = true
 ·
  simp [h]
 ·
  simp only [Bool.not_eq_true] at h
  simp [h]
theorem namesW_len (l : List (Nat × Hg.Node)) : (namesW l).length ≤ l.length := by unfold namesW; rw [List.length_map]; exact List.length_filter_le _ _
theorem wk_out (M : Nat → Option Hg.Node) : ∀ (f : Nat) (s seen : List Nat) (r : List (Nat × Hg.Node)), wk M f s seen = some r → r.length < f
 | 0, _, _, _, h => by cases h
 | f + 1, [], _, r, h => by rw [Hg.wk_nil] at h; injection h with h; subst h; simp
 | f + 1, i :: s, seen, r, h => by
   rw [Hg.wk_cons] at h
   cases hM : M i with
   | none => rw [hM] at h; have := wk_out M f s seen r h; omega
   | some n =>
     rw [hM] at h
     dsimp only at h
     by_cases hi : i ∈ seen
     ·
      rw [if_pos hi] at h; have := wk_out M f s seen r h; omega
     ·
      rw [if_neg hi] at h
      cases hw : wk M f (n.kids ++ s) (i :: seen) with
      | none => rw [hw] at h; cases h
      | some r' =>
        rw [hw] at h
        have h : (i, n) :: r' = r := Option.some.inj h
        have := wk_out M f _ _ r' hw
        rw [← h]; simp; omega
@[reducible] def ndCells (nd : Hg.Node) (ka : Option Addr) (kc : Nat) : Array Value := #[.int .u8 (nd.kind : Int), strV nd.name, .int .i64 nd.num, .int .u8 (nd.type : Int), .int .u64 (nd.ref : Int), .slice ka nd.kids.length kc]
def NamesI (B : Nat) (S : Nat → Prop) (pre : List WItem) (A : World) : Prop := ∃ v, A.heap[B]? = some (.cells #[v] 99 (0, 0)) ∧ A.ownsRow (B + 1) 9 1 v (namesW (pre.map WItem.strip)).length ((namesW (pre.map WItem.strip)).map strV) ∧ ∀ q, S q ↔ q = B ∨ v.ownBlock = some q
theorem NamesI.fr {B : Nat} {S : Nat → Prop} {pre : List WItem} {A A' : World} (h : NamesI B S pre A) (hf : Fr (fun q => ¬ S q) A A') : NamesI B S pre A' := by
 obtain ⟨v, h1, h2, h3⟩ := h
 exact ⟨v, hf.at_ h1 (fun h => h ((h3 B).2 (.inl rfl))), ownsRow_fr h2 hf (fun q e h => h ((h3 q).2 (.inr e))), h3⟩
theorem NamesI.lt {B : Nat} {S : Nat → Prop} {pre : List WItem} {A : World} (h : NamesI B S pre A) : ∀ q, S q → B ≤ q ∧ q < A.heap.size := by
 obtain ⟨v, h1, h2, h3⟩ := h
 intro q hq
 rcases (h3 q).1 hq with e | e
 ·
  subst e; exact ⟨Nat.le_refl _, (Array.getElem?_eq_some_iff.1 h1).1⟩
 ·
  have := h2.lt q e; exact ⟨by omega, this.2⟩
def namesA (p5 p7 : Value) (a : Act) : Prop := ∃ u0 u1 u2 u3 u4 u6 u8 u9 u10 u11 u12 u13 u14 u15 u16 u17 u18 u19 u20 u21 u22 u23 u24 u25 u26 : Value, a = { tmps := #[u0, u1, u2, u3, u4, p5, u6, p7, u8, u9, u10, u11, u12, u13, u14, u15, u16, u17, u18, u19, u20, u21, u22, u23, u24, u25, u26], defers := [] }
def NamesR (B : Nat) (S : Nat → Prop) (pre : List WItem) (x : WItem) (a : Act) (A : World) : Prop :=
 ∃ S0 blk, NamesI B S0 pre A ∧ namesA (.pointer (some ⟨B, 0, none⟩)) (.pointer (some ⟨blk, 0, none⟩)) a ∧ A.heap[blk]? = some (.cells (ndCells x.nd x.ka x.kc) 70 (0, 0)) ∧ (∀ q, S q ↔ S0 q ∨ q = blk) ∧ ¬ S0 blk
set_option maxHeartbeats 4000000 in
set_option maxRecDepth 100000 in
theorem knames_any (ab : Nat) (M : Nat → Option Hg.Node) (id F : Nat) (xs : List (Nat × Hg.Node)) (w : World) (hA : ArOk w ab M) (hid : id < idTop) (hxs : wk M F [id] [] = some xs) (hF : F ≤ 1000000) :
 Calls Tryz.prog 65 #[.pointer (some ⟨ab, 0, none⟩), idV id] w (StrRes w (namesW xs)) := by
 obtain ⟨i0, hi0, hz0, hz1, hz2⟩ := info_parts strInfo88
 have HA := Lib.hid hA
 have TW := Lib.hid (walk_any ab id)
 refine (callsIn_wide (n := 5)).1 (callsIn_of_wp_marks Tryz.func65 rfl trivial ?_ rfl)
 simp only [Tryz.ntmps65, List.size_toArray, List.length_cons, List.length_nil, Nat.reduceAdd, Nat.reduceSub, Array.replicate_succ, Array.replicate_zero, List.push_toArray, List.append_toArray, List.nil_append, List.cons_append]
 gi_wp2_with fail
 refine ⟨trivial, (callsIn_wide.2 (TW.out _)).mono ?_⟩
 rintro e w1 ⟨rfl, rfl⟩
 gi_wp2
 obtain ⟨⟨mb, c, hAr⟩, hkb⟩ := HA.out
 have hb0 : Below w.heap.size w (((w.alloc (.cells #[.slice none 0 0] 99)).alloc (.cells #[.pointer (some ⟨ab, 0, none⟩)] 24)).alloc (.cells #[idV id] 45)) := (((Below.refl _ _).alloc (Nat.le_refl _) _).alloc (by simp) _).alloc (by simp; omega) _
 have hzW : (((w.alloc (.cells #[.slice none 0 0] 99)).alloc (.cells #[.pointer (some ⟨ab, 0, none⟩)] 24)).alloc (.cells #[idV id] 45)).heap.size = w.heap.size + 3 := by simp
 have h0 : (((w.alloc (.cells #[.slice none 0 0] 99)).alloc (.cells #[.pointer (some ⟨ab, 0, none⟩)] 24)).alloc (.cells #[idV id] 45)).heap[w.heap.size]? = some (.cells #[.slice none 0 0] 99 (0, 0)) := (heap_alloc_old _ _ (by simp; omega)).trans ((heap_alloc_old _ _ (by simp)).trans (heap_alloc_new w _))
 have h1 : (((w.alloc (.cells #[.slice none 0 0] 99)).alloc (.cells #[.pointer (some ⟨ab, 0, none⟩)] 24)).alloc (.cells #[idV id] 45)).heap[w.heap.size + 1]? = some (.cells #[.pointer (some ⟨ab, 0, none⟩)] 24 (0, 0)) := by
  have := heap_alloc_new (w.alloc (.cells #[.slice none 0 0] 99)) (.cells #[.pointer (some ⟨ab, 0, none⟩)] 24)
  rw [show (w.alloc (.cells #[.slice none 0 0] 99)).heap.size = w.heap.size + 1 by simp] at this
  exact (heap_alloc_old _ _ (by simp)).trans this
 have h2 : (((w.alloc (.cells #[.slice none 0 0] 99)).alloc (.cells #[.pointer (some ⟨ab, 0, none⟩)] 24)).alloc (.cells #[idV id] 45)).heap[w.heap.size + 2]? = some (.cells #[idV id] 45 (0, 0)) := by
  have := heap_alloc_new ((w.alloc (.cells #[.slice none 0 0] 99)).alloc (.cells #[.pointer (some ⟨ab, 0, none⟩)] 24)) (.cells #[idV id] 45)
  rw [show ((w.alloc (.cells #[.slice none 0 0] 99)).alloc (.cells #[.pointer (some ⟨ab, 0, none⟩)] 24)).heap.size = w.heap.size + 2 by simp] at this
  exact this
 generalize World.alloc (World.alloc (World.alloc w _) _) _ = W1 at hb0 hzW h0 h1 h2 ⊢
 have hseq := walk_seq ab mb c M w.heap.size id (w.heap.size + 2) (w.heap.size + 1) F xs W1 (fun W' hf => hAr.below (hb0.trans (hf.below' (by omega))) (Nat.le_refl _)) (cell_of_row W1 (w.heap.size + 2) 0 _ _ (0, 0) h2) (cell_of_row W1 (w.heap.size + 1) 0 _ _ (0, 0) h1) ⟨by omega, by omega, by omega, by omega⟩ hid hkb hxs hF
 have HB0 := Lib.hid hb0
 have hxl := wk_out M F _ _ _ hxs
 clear hA TW hAr hkb h1 h2
 refine wpIn_walk (gf := 92) rfl (enters_of Tryz.func92 (by kernel_rfl) rfl) hseq (Fr.refl _ _) rfl (fun q h => by rcases h with h | h <;> omega) (by omega)
  (NamesI w.heap.size) (fun _ _ _ _ => False) (NamesR w.heap.size) (fun S pre A A' h hf => h.fr hf) (fun _ _ _ _ _ h _ => h) ?hI1 (fun S pre A h q hq => (h.lt q hq).2) ?hI1l
  (fun q => q = w.heap.size) ⟨_, h0, ⟨rfl, .inl ⟨rfl, rfl⟩⟩, fun q => by simp [Value.ownBlock]⟩ (fun q e => by subst e; exact ⟨Nat.le_refl _, by omega, by omega⟩) ?assign ?body ?done ?stop
 case hI1 =>
  rintro S pre x a A A' ⟨S0, blk, hi, ha, hb, hS, hn⟩ hf
  exact ⟨S0, blk, hi.fr (hf.imp (fun q _ h h' => h (.inl ((hS q).2 (.inl h'))))), ha, hf.at_ hb (fun h => h (.inl ((hS blk).2 (.inr rfl)))), hS, hn⟩
 case hI1l =>
  rintro S pre x a A ⟨S0, blk, hi, ha, hb, hS, hn⟩ q hq
  rcases (hS q).1 hq with h | h
  ·
   exact (hi.lt q h).2
  ·
   subst h; exact (Array.getElem?_eq_some_iff.1 hb).1
 case assign =>
  intro l m S pre x A K hi hpre hx hkb hf hK
  gi_wp2
  refine hK (fun q => S q ∨ q = A.heap.size) _ _ ⟨S, A.heap.size, hi.fr ((Fr.refl _ _).alloc _), ?_, heap_alloc_new A _, fun q => Iff.rfl, fun h => by have := (hi.lt _ h).2; omega⟩ ((Fr.refl _ _).alloc _) (fun q h => h.imp (fun h => h) (fun h => by omega))
  exact ⟨_, _, _, _, _, _, _, _, _, _, _, _, _, _, _, _, _, _, _, _, _, _, _, _, _, rfl⟩
 case body =>
  rintro l m S pre x a1 A ⟨S0, blk, ⟨v, hbx, hrow, hSv⟩, ha, hb, hS, hn⟩ hpre hf
  obtain ⟨u0, u1, u2, u3, u4, u6, u8, u9, u10, u11, u12, u13, u14, u15, u16, u17, u18, u19, u20, u21, u22, u23, u24, u25, u26, rfl⟩ := ha
  have hlen : (namesW (pre.map WItem.strip)).length ≤ 1000000 := by
   have h1 := namesW_len (pre.map WItem.strip)
   have h2 := hpre.length_le
   simp at h1 h2
   omega
  have hsn := namesW_snoc (pre.map WItem.strip) x.strip
  rw [show pre.map WItem.strip ++ [x.strip] = (pre ++ [x]).map WItem.strip by simp] at hsn
  have e0 := cell_of_row A blk 0 _ _ (0, 0) hb
  have e1 := cell_of_row A blk 1 _ _ (0, 0) hb
  have eB := cell_of_row A w.heap.size 0 _ _ (0, 0) hbx
  have fB : A.frozen? ⟨w.heap.size, 0, none⟩ = false := by simp [World.frozen?, hbx]
  have hBl := (Array.getElem?_eq_some_iff.1 hbx).1
  have hbl := (Array.getElem?_eq_some_iff.1 hb).1
  simp at e0 e1 eB
  generalize hnd : x.nd = nd at e0 e1
  have HSN := Lib.hid hsn
  have HND := Lib.hid hnd
  have HROW := Lib.hid hrow
  have HBX := Lib.hid hbx
  have HSS := Lib.hid (And.intro hSv hS)
  clear hsn hrow hSv hS hb hpre hf
  by_cases hk : nd.kind = 4 ∨ nd.kind = 6
  ·
   have hcond : (x.strip.2.kind == 4 || x.strip.2.kind == 6) = true := by
    show (x.nd.kind == 4 || x.nd.kind == 6) = true
    rw [hnd]
    rcases hk with h | h <;> simp [h]
   rw [hcond] at HSN
   have HSN2 := Lib.hid (show namesW ((pre ++ [x]).map WItem.strip) = namesW (pre.map WItem.strip) ++ [nd.name] from by rw [HSN.out, ← hnd]; rfl)
   have hq : ((nd.kind : Int) == 4) = true ∨ (((nd.kind : Int) == 4) = false ∧ ((nd.kind : Int) == 6) = true) := by
    rcases hk with h | h
    ·
     exact .inl (by simp [h])
    ·
     exact .inr ⟨by simp [h], by simp [h]⟩
   clear hcond HSN hnd hk
   rcases hq with hq | ⟨hq, hq6⟩
   ·
    skip
    gi_wp2_with (gi_at_builtin; refine wpListIn_append_own_at _ rfl (.tmp 21) (.tmp 24) _ rfl (w.heap.size + 1) 9 i0 _ 1 16 Tryz.underlying99 hi0 hz0 hz1 hz2 rfl (by decide) _ (namesW (pre.map WItem.strip)).length ((namesW (pre.map WItem.strip)).map strV) rfl (HROW.out.alloc _) ⟨A.heap.size, 0, none⟩ 1 1 [strV nd.name] rfl rfl (cells_new _ _ _) ?_ ?_ ?_ ?_ ?_)
    all_goals first
     | intro v3 W3 own3 g3 _ at3
     | (unfold maxLen; omega)
     | omega
     | (simp; omega)
     | (intro u hu; simp only [List.mem_singleton] at hu; subst hu; rfl)
    obtain ⟨y3, z3, rfl⟩ := ownsRow_succ own3
    have hfa : Fr (fun q => v.ownBlock = some q) A W3 := ((Fr.refl _ A).alloc _).step g3 (fun q e => .inl e)
    have hb3 : W3.heap[w.heap.size]? = some (.cells #[v] 99 (0, 0)) := hfa.at_ HBX.out (fun e => by have := (HROW.out.lt _ e).1; omega)
    have c3 : W3.cell? ⟨w.heap.size, 0, none⟩ = some v := by have := cell_of_row W3 w.heap.size 0 _ _ (0, 0) hb3; simpa using this
    have f3 : W3.frozen? ⟨w.heap.size, 0, none⟩ = false := by simp [World.frozen?, hb3]
    have hBl3 : w.heap.size < W3.heap.size := (Array.getElem?_eq_some_iff.1 hb3).1
    have HFIN := Lib.hid (show ∃ S', NamesI w.heap.size S' (pre ++ [x]) (W3.setCell ⟨w.heap.size, 0, none⟩ (.slice (some ⟨y3, 0, none⟩) ((namesW (pre.map WItem.strip)).length + 1) z3)) ∧ Fr S A (W3.setCell ⟨w.heap.size, 0, none⟩ (.slice (some ⟨y3, 0, none⟩) ((namesW (pre.map WItem.strip)).length + 1) z3)) ∧ ∀ q, S' q → S q ∨ A.heap.size ≤ q from by
     refine ⟨fun q => q = w.heap.size ∨ y3 = q, ⟨_, heap_setCell_same hb3 _, ?_, fun q => by simp [Value.ownBlock]⟩, ?_, fun q hq => ?_⟩
     ·
      rw [HSN2.out, List.map_append, List.length_append]
      exact ownsRow_fr own3 ((Fr.refl (fun q => q = w.heap.size) W3).set (p := ⟨w.heap.size, 0, none⟩) (.inl rfl) _) (fun q e e' => by have := (own3.lt q e).1; omega)
     ·
      refine (hfa.imp (fun q _ e => (HSS.out.2 q).2 (.inl ((HSS.out.1 q).2 (.inr e))))).set (p := ⟨w.heap.size, 0, none⟩) (.inl ((HSS.out.2 w.heap.size).2 (.inl ((HSS.out.1 w.heap.size).2 (.inl rfl))))) _
     ·
      rcases hq with e | e
      ·
       exact .inl ((HSS.out.2 q).2 (.inl ((HSS.out.1 q).2 (.inl e))))
      ·
       rcases at3 with h | h
       ·
        exact .inl ((HSS.out.2 q).2 (.inl ((HSS.out.1 q).2 (.inr (by rw [← h, ← e]; rfl)))))
       ·
        injection h with h
        have h : y3 = _ := h
        try simp at h
        exact .inr (by omega))
    clear own3 g3 at3 hfa hb3
    gi_wp2
    exact HFIN.out
   ·
    skip
    gi_wp2_with (gi_at_builtin; refine wpListIn_append_own_at _ rfl (.tmp 21) (.tmp 24) _ rfl (w.heap.size + 1) 9 i0 _ 1 16 Tryz.underlying99 hi0 hz0 hz1 hz2 rfl (by decide) _ (namesW (pre.map WItem.strip)).length ((namesW (pre.map WItem.strip)).map strV) rfl (HROW.out.alloc _) ⟨A.heap.size, 0, none⟩ 1 1 [strV nd.name] rfl rfl (cells_new _ _ _) ?_ ?_ ?_ ?_ ?_)
    all_goals first
     | intro v3 W3 own3 g3 _ at3
     | (unfold maxLen; omega)
     | omega
     | (simp; omega)
     | (intro u hu; simp only [List.mem_singleton] at hu; subst hu; rfl)
    obtain ⟨y3, z3, rfl⟩ := ownsRow_succ own3
    have hfa : Fr (fun q => v.ownBlock = some q) A W3 := ((Fr.refl _ A).alloc _).step g3 (fun q e => .inl e)
    have hb3 : W3.heap[w.heap.size]? = some (.cells #[v] 99 (0, 0)) := hfa.at_ HBX.out (fun e => by have := (HROW.out.lt _ e).1; omega)
    have c3 : W3.cell? ⟨w.heap.size, 0, none⟩ = some v := by have := cell_of_row W3 w.heap.size 0 _ _ (0, 0) hb3; simpa using this
    have f3 : W3.frozen? ⟨w.heap.size, 0, none⟩ = false := by simp [World.frozen?, hb3]
    have hBl3 : w.heap.size < W3.heap.size := (Array.getElem?_eq_some_iff.1 hb3).1
    have HFIN := Lib.hid (show ∃ S', NamesI w.heap.size S' (pre ++ [x]) (W3.setCell ⟨w.heap.size, 0, none⟩ (.slice (some ⟨y3, 0, none⟩) ((namesW (pre.map WItem.strip)).length + 1) z3)) ∧ Fr S A (W3.setCell ⟨w.heap.size, 0, none⟩ (.slice (some ⟨y3, 0, none⟩) ((namesW (pre.map WItem.strip)).length + 1) z3)) ∧ ∀ q, S' q → S q ∨ A.heap.size ≤ q from by
     refine ⟨fun q => q = w.heap.size ∨ y3 = q, ⟨_, heap_setCell_same hb3 _, ?_, fun q => by simp [Value.ownBlock]⟩, ?_, fun q hq => ?_⟩
     ·
      rw [HSN2.out, List.map_append, List.length_append]
      exact ownsRow_fr own3 ((Fr.refl (fun q => q = w.heap.size) W3).set (p := ⟨w.heap.size, 0, none⟩) (.inl rfl) _) (fun q e e' => by have := (own3.lt q e).1; omega)
     ·
      refine (hfa.imp (fun q _ e => (HSS.out.2 q).2 (.inl ((HSS.out.1 q).2 (.inr e))))).set (p := ⟨w.heap.size, 0, none⟩) (.inl ((HSS.out.2 w.heap.size).2 (.inl ((HSS.out.1 w.heap.size).2 (.inl rfl))))) _
     ·
      rcases hq with e | e
      ·
       exact .inl ((HSS.out.2 q).2 (.inl ((HSS.out.1 q).2 (.inl e))))
      ·
       rcases at3 with h | h
       ·
        exact .inl ((HSS.out.2 q).2 (.inl ((HSS.out.1 q).2 (.inr (by rw [← h, ← e]; rfl)))))
       ·
        injection h with h
        have h : y3 = _ := h
        try simp at h
        exact .inr (by omega))
    clear own3 g3 at3 hfa hb3
    gi_wp2
    exact HFIN.out
  ·
   have hcond : (x.strip.2.kind == 4 || x.strip.2.kind == 6) = false := by
    show (x.nd.kind == 4 || x.nd.kind == 6) = false
    rw [hnd]
    simp; omega
   rw [hcond] at HSN
   have HSN2 := Lib.hid (show namesW ((pre ++ [x]).map WItem.strip) = namesW (pre.map WItem.strip) from by rw [HSN.out]; simp)
   have q4 : ((nd.kind : Int) == 4) = false := by simp; omega
   have q6 : ((nd.kind : Int) == 6) = false := by simp; omega
   clear hcond HSN hnd hk
   gi_wp2
   exact ⟨_, ⟨v, HBX.out, by rw [HSN2.out]; exact HROW.out, HSS.out.1⟩, Fr.refl _ _, fun q h => .inl ((HSS.out.2 q).2 (.inl h))⟩
 case done =>
  rintro S ys W hys ⟨v, hbx, hrow, hSv⟩ hK hnS hf
  have eB := cell_of_row W w.heap.size 0 _ _ (0, 0) hbx
  simp at eB
  have hpf := putObj_fr W W1.heap.size (.deferred none)
  have hnv : ∀ q, v.ownBlock = some q → ¬ q = W1.heap.size := fun q e e' => hnS ((hSv _).2 (.inr (e' ▸ e)))
  have HFIN := Lib.hid (show (∃ u, (Ending.returned v = .returned u) ∧ (W.putObj W1.heap.size (.deferred none)).ownsRow w.heap.size 9 1 u (namesW xs).length ((namesW xs).map strV)) ∧ Below w.heap.size w (W.putObj W1.heap.size (.deferred none)) from ⟨⟨v, rfl, by
   rw [← hys]
   exact ownsRow_base (ownsRow_fr hrow hpf (fun q e e' => hnv q e e')) (by omega)⟩, by
   have h1 := HB0.out.trans ((hf.imp (D' := fun q => w.heap.size ≤ q) (fun q _ e => by rcases e with e | e | e <;> omega)).below' (by omega))
   exact h1.trans ((hpf.imp (D' := fun q => w.heap.size ≤ q) (fun q _ e => by omega)).below' h1.size)⟩)
  clear hbx hrow hSv hf hpf hnv
  gi_wp2
  refine ⟨by simp, .inl ⟨_, _, rfl, run_takeDeferred hK, ?_⟩⟩
  refine ⟨_, results_tmp rfl _ _ _, ?_⟩
  exact HFIN.out
 case stop =>
  intro c S pre W hpre h
  exact h.elim
end Go.Proofs.YtoelmnamlnbdhaaGreatDoor
namespace Hg
def findF (M : Nat → Option Node) (mod fn : Str) (m : Nat) (l : List Nat) : Option Nat := l.find? fun f => nameK M m == mod && nameK M f == fn
def findM (M : Nat → Option Node) (mod fn : Str) : List Nat → Option Nat
 | [] => none
 | m :: l => match findF M mod fn m (funcsK M m) with | some f => some f | none => findM M mod fn l
def funcK (M : Nat → Option Node) (mod fn : Str) : Nat := (findM M mod fn (modsK M)).getD 0
def mainK (M : Nat → Option Node) : Nat := match M (funcK M wMain wMain) with
 | none => 0
 | some n => if n.type = 1 ∧ (kidsK M (funcK M wMain wMain) 4).length = 0 then funcK M wMain wMain else 0
theorem findF_mem {M : Nat → Option Node} {mod fn : Str} {m f : Nat} {l : List Nat} (h : findF M mod fn m l = some f) : f ∈ l := List.mem_of_find?_eq_some h
theorem findM_lt {M : Nat → Option Node} (hk : KB M) {mod fn : Str} {f : Nat} : ∀ {l : List Nat}, findM M mod fn l = some f → f < 18446744073709551616
 | [], h => by cases h
 | m :: l, h => by
   rw [findM] at h
   cases hf : findF M mod fn m (funcsK M m) with
   | some g =>
     rw [hf] at h
     have h : some g = some f := h
     injection h with h
     subst h
     exact hk.kids m 3 _ (findF_mem hf)
   | none => rw [hf] at h; exact findM_lt hk h
theorem funcK_lt {M : Nat → Option Node} (hk : KB M) (mod fn : Str) : funcK M mod fn < 18446744073709551616 := by
 unfold funcK
 cases h : findM M mod fn (modsK M) with
 | none => decide
 | some f => exact findM_lt hk h
end Hg
namespace Go.Proofs.YtoelmnamlnbdhaaGreatDoor
open Go.RowKit
open Hg (GT gl wk isK ndAt kidsK modsK funcsK KB nameK typeK namesW findF findM funcK mainK wMain)
set_option maxHeartbeats 4000000 in
set_option maxRecDepth 100000 in
theorem func_any (ab : Nat) (M : Nat → Option Hg.Node) (mod fn : List UInt8) (w : World) (hA : ArOk w ab M) :
 Calls Tryz.prog 32 #[.pointer (some ⟨ab, 0, none⟩), strV mod, strV fn] w fun e w' => e = .returned (idV (funcK M mod fn)) ∧ Below w.heap.size w w' := by
 have T1 := Lib.hid (modules_any ab M w hA)
 have HA := Lib.hid hA
 have hml := hA.lenK 1 2
 have hmm := hA.2.kids 1 2
 have HMM := Lib.hid hmm
 generalize hR : findM M mod fn (modsK M) = R
 have HR0 := Lib.hid hR
 have HFK := Lib.hid (show funcK M mod fn = R.getD 0 from by unfold funcK; rw [hR])
 clear hA hmm hR
 go_enter Tryz.func32, Tryz.ntmps32
 go_wp2_with fail
 refine T1.out.mono ?_
 rintro e w1 ⟨⟨v, rfl, ho1⟩, hb1⟩
 obtain ⟨a, c, rfl⟩ := (Sl.of_own ho1).form
 have HS := Lib.hid (Sl.of_own ho1)
 have HB1 := Lib.hid hb1
 have HA1 := Lib.hid (HA.out.below hb1)
 change (modsK M).length ≤ 1000000 at hml
 clear ho1 hb1 T1
 go_wp2
 go_loopw [14] (fun p wr => ∃ i : Nat, p = .int .i64 (i : Int) ∧ i ≤ (modsK M).length ∧ Below w1.heap.size w1 wr ∧ findM M mod fn ((modsK M).drop i) = R) (fun p wr => (modsK M).length - (intOf p).toNat)
 case atStart => exact ⟨0, rfl, Nat.zero_le _, Below.refl _ _, HR0.out⟩
 case round =>
  obtain ⟨i, rfl, hi, hb, hR⟩ := hrel
  have HB := Lib.hid hb
  clear hb
  by_cases hlt : i < (modsK M).length
  ·
   obtain ⟨b, o, rfl, _, kc⟩ := (HS.out.below HB.out (Nat.le_refl _)).mapAt hlt
   have hmi := HMM.out _ (List.getElem_mem hlt)
   rw [List.drop_eq_getElem_cons hlt, findM] at hR
   generalize (modsK M)[i] = m at kc hmi hR
   have T2 := Lib.hid (funcs_any ab M m wr (HA1.out.below HB.out) hmi)
   have hfl := (HA1.out.below HB.out).lenK m 3
   have HFM := Lib.hid (HA.out.2.kids m 3)
   have HR := Lib.hid hR
   change (funcsK M m).length ≤ 1000000 at hfl
   clear hR
   go_wp2_with fail
   refine T2.out.mono ?_
   rintro e w2 ⟨⟨v2, rfl, ho2⟩, hb2⟩
   obtain ⟨a2, c2, rfl⟩ := (Sl.of_own ho2).form
   have HS2 := Lib.hid (Sl.of_own ho2)
   have HB2 := Lib.hid (HB.out.trans (hb2.mono HB.out.size))
   clear ho2 hb2 T2
   generalize hR2 : findF M mod fn m (funcsK M m) = R2 at HR
   have HR2 := Lib.hid hR2
   clear hR2
   go_wp2
   go_loopw [22] (fun p wr => ∃ j : Nat, p = .int .i64 (j : Int) ∧ j ≤ (funcsK M m).length ∧ Below w2.heap.size w2 wr ∧ findF M mod fn m ((funcsK M m).drop j) = R2) (fun p wr => (funcsK M m).length - (intOf p).toNat)
   case atStart => exact ⟨0, rfl, Nat.zero_le _, Below.refl _ _, HR2.out⟩
   case round =>
    obtain ⟨j, rfl, hj, hb3, hr2⟩ := hrel
    have HB3 := Lib.hid hb3
    have HB3' := Lib.hid (HB2.out.trans (hb3.mono HB2.out.size))
    clear hb3
    by_cases hltj : j < (funcsK M m).length
    ·
     obtain ⟨b2, o2, rfl, _, kc2⟩ := (HS2.out.below HB3.out (Nat.le_refl _)).mapAt hltj
     have hfj := HFM.out _ (List.getElem_mem hltj)
     rw [List.drop_eq_getElem_cons hltj] at hr2
     unfold findF at hr2
     rw [List.find?_cons] at hr2
     generalize (funcsK M m)[j] = f at kc2 hfj hr2
     have TN := Lib.hid (kname_any ab M m wr (HA1.out.below HB3'.out) hmi)
     replace hr2 : (match nameK M m == mod && nameK M f == fn with | true => some f | false => findF M mod fn m ((funcsK M m).drop (j + 1))) = R2 := hr2
     have HR3 := Lib.hid hr2
     clear hr2
     generalize hnm : nameK M m = nm at TN HR3
     have HNM := Lib.hid hnm
     clear hnm
     by_cases hm : nm = mod
     ·
      subst hm
      go_wp2_with fail
      refine TN.out.mono ?_
      rintro e w3 ⟨rfl, hb3⟩
      have HB4 := Lib.hid (HB3'.out.trans (hb3.mono HB3'.out.size))
      have HB5 := Lib.hid (HB3.out.trans (hb3.mono HB3.out.size))
      have TF := Lib.hid (kname_any ab M f w3 (HA1.out.below HB4.out) hfj)
      generalize hnf : nameK M f = nf at TF HR3
      have HNF := Lib.hid hnf
      clear hb3 TN hnf
      by_cases hf : nf = fn
      ·
       subst hf
       have hr3 := HR3.out
       simp only [beq_self_eq_true, Bool.and_self] at hr3
       go_wp2_with fail
       refine TF.out.mono ?_
       rintro e w4 ⟨rfl, hb4⟩
       have HB6 := Lib.hid (HB1.out.trans ((HB4.out.trans (hb4.mono HB4.out.size)).mono HB1.out.size))
       clear hb4 TF
       subst hr3
       have hR := HR.out
       have hR : some f = R := hR
       subst hR
       go_wp2
       go_ret
       rw [HFK.out]
       exact ⟨rfl, HB6.out⟩
      ·
       have hr3 := HR3.out
       have hbf : (nf == fn) = false := by simpa using hf
       rw [hbf, Bool.and_false] at hr3
       have HR5 := Lib.hid hr3
       clear hr3
       go_wp2_with fail
       refine TF.out.mono ?_
       rintro e w4 ⟨rfl, hb4⟩
       have HB7 := Lib.hid (HB5.out.trans (hb4.mono HB5.out.size))
       clear hb4 TF
       go_wp2
       go_roundw
       case rel => exact ⟨j + 1, by go_num, by omega, HB7.out, HR5.out⟩
       case measure => simp [intOf]; omega
     ·
      have hr3 := HR3.out
      have hbf : (nm == mod) = false := by simpa using hm
      rw [hbf, Bool.false_and] at hr3
      have HR5 := Lib.hid hr3
      clear hr3
      go_wp2_with fail
      refine TN.out.mono ?_
      rintro e w3 ⟨rfl, hb3⟩
      have HB5 := Lib.hid (HB3.out.trans (hb3.mono HB3.out.size))
      clear hb3 TN
      go_wp2
      go_roundw
      case rel => exact ⟨j + 1, by go_num, by omega, HB5.out, HR5.out⟩
      case measure => simp [intOf]; omega
    ·
     obtain rfl : j = (funcsK M m).length := by omega
     rw [List.drop_length] at hr2
     have hr2 : none = R2 := hr2
     subst hr2
     have HR4 := Lib.hid (show findM M mod fn ((modsK M).drop (i + 1)) = R from HR.out)
     go_wp2
     go_roundw
     case rel => exact ⟨i + 1, by go_num, by omega, HB3'.out, HR4.out⟩
     case measure => simp [intOf]; omega
  ·
   obtain rfl : i = (modsK M).length := by omega
   rw [List.drop_length] at hR
   have hR : none = R := hR
   subst hR
   go_wp2
   go_ret
   rw [HFK.out]
   exact ⟨rfl, HB1.out.trans (HB.out.mono HB1.out.size)⟩
set_option maxHeartbeats 4000000 in
set_option maxRecDepth 100000 in
theorem main_any (ab : Nat) (M : Nat → Option Hg.Node) (w : World) (hA : ArOk w ab M) :
 Calls Tryz.prog 16 #[.pointer (some ⟨ab, 0, none⟩)] w fun e w' => e = .returned (idV (mainK M)) ∧ Below w.heap.size w w' := by
 have T1 := Lib.hid (func_any ab M wMain wMain w hA)
 have HA := Lib.hid hA
 generalize hr : mainK M = r
 unfold mainK at hr
 have hfl := Hg.funcK_lt hA.2 wMain wMain
 generalize hf : funcK M wMain wMain = f at hr hfl T1
 clear hA hf
 have hget : ∀ W, ArOk W ab M → ∀ o, M f = o → Calls Tryz.prog 33 #[.pointer (some ⟨ab, 0, none⟩), .int .u64 (f : Int)] W (GetResO W o) := fun W h o e => e ▸ h.get hfl
 cases hM : M f with
 | none =>
   rw [hM] at hr
   have hr : 0 = r := hr
   subst hr
   go_enter Tryz.func16, Tryz.ntmps16
   go_wp2_with fail
   refine T1.out.mono ?_
   rintro e w1 ⟨rfl, hb1⟩
   have TG := Lib.hid (hget w1 (HA.out.below hb1) none hM)
   have HB1 := Lib.hid hb1
   clear T1 hb1
   go_wp2_with fail
   refine TG.out.mono ?_
   rintro e w2 ⟨ka, kc, rfl, ho, hb2⟩
   have HB2 := Lib.hid (HB1.out.trans (hb2.mono HB1.out.size))
   clear TG ho hb2
   go_wp2
   go_ret
   exact ⟨rfl, HB2.out.alloc HB2.out.size _⟩
 | some nd =>
   rw [hM] at hr
   have hr : (if nd.type = 1 ∧ (kidsK M f 4).length = 0 then f else 0) = r := hr
   have HR := Lib.hid hr
   clear hr
   go_enter Tryz.func16, Tryz.ntmps16
   go_wp2_with fail
   refine T1.out.mono ?_
   rintro e w1 ⟨rfl, hb1⟩
   have TG := Lib.hid (hget w1 (HA.out.below hb1) (some nd) hM)
   have HB1 := Lib.hid hb1
   clear T1 hb1
   go_wp2_with fail
   refine TG.out.mono ?_
   rintro e w2 ⟨ka, kc, rfl, ho, hb2⟩
   have HB2 := Lib.hid (HB1.out.trans (hb2.mono HB1.out.size))
   have hb3 := HB2.out.alloc HB2.out.size (.cells (ndCells nd ka kc) 70)
   have HB3 := Lib.hid hb3
   have TK := Lib.hid (kids_any ab M f 4 _ (HA.out.below hb3) hfl)
   clear TG ho hb2 hb3
   by_cases ht : nd.type = 1
   ·
    have hq : ((nd.type : Int) != 1) = false := by simp [ht]
    have hq2 : ((nd.type : Int) == 1) = true := by simp [ht]
    rw [ht] at HR
    clear ht
    go_wp2_with fail
    refine TK.out.mono ?_
    rintro e w4 ⟨⟨v, rfl, ho4⟩, hb4⟩
    obtain ⟨a4, c4, rfl⟩ := (Sl.of_own ho4).form
    have HB4 := Lib.hid (HB3.out.trans (hb4.mono HB3.out.size))
    have hr := HR.out
    simp only [true_and] at hr
    clear TK ho4 hb4
    by_cases hk : (kidsK M f 4).length = 0
    ·
     rw [if_pos hk] at hr
     subst hr
     generalize (kidsK M f 4).length = n at hk ⊢
     subst hk
     go_wp2
     go_ret
     exact ⟨rfl, HB4.out⟩
    ·
     rw [if_neg hk] at hr
     subst hr
     generalize (kidsK M f 4).length = n at hk ⊢
     have hk2 : 0 < n := by omega
     go_wp2
     go_ret
     exact ⟨rfl, HB4.out⟩
   ·
    have hq : ((nd.type : Int) != 1) = true := by simp; omega
    have hq2 : ((nd.type : Int) == 1) = false := by simp; omega
    have hr := HR.out
    rw [if_neg (fun h => ht h.1)] at hr
    subst hr
    clear ht TK
    go_wp2
    go_ret
    exact ⟨rfl, HB3.out⟩
end Go.Proofs.YtoelmnamlnbdhaaGreatDoor
namespace Hg
def seenP (M : Nat → Option Node) (n : Node) (x : Nat) : Bool := (decide (n.kind = 5) && decide ((ndAt M x).kind = 6)) || (decide (n.kind = 3) && decide ((ndAt M x).kind = 4))
def seenL (M : Nat → Option Node) (n : Node) (k : Nat) : List Nat := (n.kids.take k).filter (seenP M n)
def seenK (M : Nat → Option Node) (par : Nat → Nat × Int) : Nat → Nat → List Nat → List Nat → Option (List Nat)
 | 0, _, _, _ => none
 | f + 1, id, seen, out => if id ∈ seen then some out else match M (par id).1 with
   | none => some out
   | some n => seenK M par f (par id).1 (id :: seen) (seenL M n (par id).2.toNat ++ out)
end Hg
namespace Go.Proofs.YtoelmnamlnbdhaaGreatDoor
open Go.RowKit
open Hg (GT gl wk isK ndAt kidsK KB seenP seenL seenK)
structure ParOk (M : Nat → Option Hg.Node) (par : Nat → Nat × Int) : Prop where
 zero : M 0 = none
 par : ∀ id, ParIn M id (fun i => i < idTop) (par id).1 (par id).2
theorem ParOk.call {M : Nat → Option Hg.Node} {par : Nat → Nat × Int} (h : ParOk M par) {w : World} {ab : Nat} (hA : ArOk w ab M) (id : Nat) :
 Calls Tryz.prog 101 #[.pointer (some ⟨ab, 0, none⟩), .int .u64 (id : Int)] w fun e w' => e = .returned (.tuple #[.int .u64 ((par id).1 : Int), .int .i64 (par id).2]) ∧ (par id).1 < idTop ∧ Below w.heap.size w w' := by
 obtain ⟨⟨mb, c, hAr⟩, _⟩ := hA
 refine (arparent_any ab mb c M id w hAr h.zero).mono ?_
 rintro e w' ⟨p, k, hp, hlt, rfl, hb⟩
 obtain ⟨e1, e2⟩ := hp.unique (h.par id)
 subst e1
 subst e2
 exact ⟨rfl, hlt, hb⟩
theorem idxI_lt (l : List Nat) (id k : Nat) (h : idxI l id = (k : Int)) : k < l.length := by
 unfold idxI at h
 cases hf : l.findIdx? (· == id) with
 | none => rw [hf] at h; simp at h
 | some j =>
   rw [hf] at h
   have h : (j : Int) = (k : Int) := h
   have h2 := (List.findIdx?_eq_some_iff_getElem.1 hf).1
   omega
structure SnSt (M : Nat → Option Hg.Node) (par : Nat → Nat × Int) (F sb : Nat) (R : List Nat) (w : World) (f : Nat) (v : Value) (id : Nat) (wr : World) (seen out : List Nat) : Prop where
 own : wr.ownsRow w.heap.size 45 1 v out.length (out.map idV)
 mp : IMap wr sb (seenM seen)
 bel : Below w.heap.size w wr
 sl : w.heap.size ≤ sb
 run : seenK M par f id seen out = some R
 cnt : seen.length + f ≤ F
 out : out.length ≤ seen.length * 1000000
 lt : id < idTop
set_option maxHeartbeats 8000000 in
set_option maxRecDepth 100000 in
theorem seen_any (ab : Nat) (M : Nat → Option Hg.Node) (par : Nat → Nat × Int) (hp : ParOk M par) (id F : Nat) (R : List Nat) (w : World) (hA : ArOk w ab M) (hid : id < idTop) (hR : seenK M par F id [] [] = some R) (hF : F ≤ 1000000) :
 Calls Tryz.prog 67 #[.pointer (some ⟨ab, 0, none⟩), idV id] w (RowRes w R) := by
 obtain ⟨j0, hj, hj0, hj1, hj2⟩ := info_parts idInfo30
 have hzb : ∀ W : World, (zeroValue 4).run Tryz.prog W = .ok (.bool false) W := fun W => by kernel_rfl
 have hmm := @run_makeMap Tryz.prog
 have HA := Lib.hid hA
 have HP := Lib.hid hp
 have HST := Lib.hid (show SnSt M par F w.heap.size R w F (.slice none 0 0) id (w.alloc (.map #[] 0)) [] [] from ⟨⟨rfl, .inl ⟨rfl, rfl⟩⟩, XMap.made 45 idV w, (Below.refl _ _).alloc (Nat.le_refl _) _, Nat.le_refl _, hR, by simp, by simp, hid⟩)
 clear hA hp hR hid
 go_enter Tryz.func67, Tryz.ntmps67
 go_wp2
 generalize World.alloc w _ = W1 at HST ⊢
 go_loopw [5, 7] (fun p q wr => ∃ (v : Value) (id : Nat), p = v ∧ q = idV id ∧ ∃ f seen out, SnSt M par F w.heap.size R w f v id wr seen out) (fun p q wr => Hg.least (fun f => ∃ id seen out, q = idV id ∧ SnSt M par F w.heap.size R w f p id wr seen out))
 case atStart => exact ⟨_, id, rfl, rfl, F, [], [], HST.out⟩
 case round =>
  obtain ⟨v, id, hv, rfl, hrel⟩ := hrel
  have hv := hv.symm
  subst hv
  have hl := Hg.least_spec (p := fun f => ∃ id2 seen out, idV id = idV id2 ∧ SnSt M par F w.heap.size R w f v id2 wr seen out) (by
   obtain ⟨f, seen, out, h⟩ := hrel
   exact ⟨f, id, seen, out, rfl, h⟩)
  generalize hf0 : Hg.least _ = f at hl
  have HF0 := Lib.hid hf0
  obtain ⟨id2, seen, out, hid2, hS⟩ := hl
  have hid2 : id = id2 := by injection hid2 with _ h; exact Int.ofNat.inj h
  subst hid2
  have HS := Lib.hid hS
  have hlk := (hS.mp.look (t := 138) (x := id) keyedId Tryz.underlying138 (hzb _) ⟨_, keyOf_id hS.lt⟩)
  unfold seenM at hlk
  rw [Hg.gl_key] at hlk
  clear hf0 hrel HST hv
  cases f with
  | zero => have := hS.run; cases this
  | succ f =>
  by_cases hin : id ∈ seen
  ·
   rw [if_pos hin] at hlk
   replace hlk : (Instr.lookup 138 (.map (some w.heap.size)) (.int .u64 (id : Int)) false).run Tryz.prog wr = .ok (.bool true) wr := hlk
   have hrun := hS.run
   rw [seenK, if_pos hin] at hrun
   have hrun : out = R := Option.some.inj hrun
   clear hS
   go_wp2
   go_ret
   exact ⟨⟨_, rfl, hrun ▸ HS.out.own⟩, HS.out.bel⟩
  ·
   rw [if_neg hin] at hlk
   replace hlk : (Instr.lookup 138 (.map (some w.heap.size)) (.int .u64 (id : Int)) false).run Tryz.prog wr = .ok (.bool false) wr := hlk
   have hrun := hS.run
   rw [seenK, if_neg hin] at hrun
   obtain ⟨W2, hrun2, hU2, hg2⟩ := hS.mp.put (t := 138) keyedId Tryz.underlying138 (fun x y h => by injection h with _ h; exact Int.ofNat.inj h) (by have := hS.cnt; unfold seenM; simp; omega) id ⟨_, keyOf_id hS.lt⟩ (.bool true)
   replace hrun2 : (Instr.mapUpdate 138 (.map (some w.heap.size)) (.int .u64 (id : Int)) (.bool true)).run Tryz.prog wr = .ok () W2 := hrun2
   have hf2 : Fr (fun q => q = w.heap.size) wr W2 := Fr.of_grown hg2 (fun q e => by injection e with e; exact e.symm)
   have HO2 := Lib.hid (show W2.ownsRow w.heap.size 45 1 v out.length (out.map idV) from ownsRow_fr hS.own hf2 (fun q e e' => by
    obtain ⟨es, ck, hm⟩ := hS.mp.obj
    rcases own_not_map hS.own hm with h | h
    ·
     rw [h] at e; cases e
    ·
     exact h (e' ▸ e)))
   have hb2 : Below w.heap.size w W2 := hS.bel.trans ((hf2.imp (D' := fun q => w.heap.size ≤ q) (fun q _ e => by omega)).below' hS.bel.size)
   have HB2 := Lib.hid hb2
   have HU2 := Lib.hid (show IMap W2 w.heap.size (seenM (id :: seen)) from hU2)
   have TP := Lib.hid (HP.out.call (HA.out.below hb2) id)
   have hpar := HP.out.par id
   generalize par id = pk at TP hrun hpar
   obtain ⟨p, k⟩ := pk
   dsimp only at TP hrun hpar
   have hcn := hS.cnt
   have hol := hS.out
   clear hS hU2 hg2 hf2 hb2
   go_wp2_with fail
   refine TP.out.mono ?_
   rintro e W3 ⟨rfl, hpl, hb3⟩
   have HB3 := Lib.hid (HB2.out.trans (hb3.mono HB2.out.size))
   have HO3 := Lib.hid (ownsRow_fr HO2.out (Fr.of_below (D := fun _ => False) hb3) (fun _ _ e => e))
   have HU3 := Lib.hid (HU2.out.fr (Fr.of_below (D := fun _ => False) hb3) (fun e => e))
   have hget : ∀ o, M p = o → Calls Tryz.prog 33 #[.pointer (some ⟨ab, 0, none⟩), .int .u64 (p : Int)] W3 (GetResO W3 o) := fun o e => e ▸ (HA.out.below HB3.out).get hpl
   clear TP hb3 hlk hrun2
   cases hM : M p with
   | none =>
     rw [hM] at hrun
     have hrun : out = R := Option.some.inj hrun
     have TG := Lib.hid (hget none hM)
     clear hget
     go_wp2_with fail
     refine TG.out.mono ?_
     rintro e W4 ⟨ka, kc, rfl, ho4, hb4⟩
     have HB4 := Lib.hid (HB3.out.trans (hb4.mono HB3.out.size))
     have HO4 := Lib.hid (ownsRow_fr HO3.out (Fr.of_below (D := fun _ => False) hb4) (fun _ _ e => e))
     clear TG ho4 hb4
     go_wp2
     go_ret
     exact ⟨⟨_, rfl, hrun ▸ HO4.out.alloc _⟩, HB4.out.alloc HB4.out.size _⟩
   | some n =>
     rw [hM] at hrun
     dsimp only at hrun
     have hk0 : 0 ≤ k ∧ idxI n.kids id = k := by
      rcases hpar with ⟨h1, h2, h3⟩ | ⟨h1, h2, ⟨nd, hn, h3, h4⟩, h5⟩
      ·
       rw [h1, HP.out.zero] at hM; cases hM
      ·
       rw [hM] at hn; injection hn with hn; subst hn; exact ⟨h4, h3⟩
     obtain ⟨kn, rfl⟩ : ∃ kn : Nat, k = (kn : Int) := ⟨k.toNat, by omega⟩
     have hkl : kn < n.kids.length := idxI_lt n.kids id kn hk0.2
     have hnl : n.kids.length ≤ 1000000 := by have := (HA.out.below HB3.out).len p; unfold ndAt at this; rw [hM] at this; exact this
     have hnk := HA.out.2 p n hM
     have TG := Lib.hid (hget (some n) hM)
     have hrun : seenK M par f p (id :: seen) (seenL M n kn ++ out) = some R := hrun
     have HRUN := Lib.hid hrun
     have HNK := Lib.hid hnk
     clear hget hpar hk0 hrun hnk
     go_wp2_with fail
     refine TG.out.mono ?_
     rintro e W4 ⟨ka, kc, rfl, ho4, hb4⟩
     have HB4 := Lib.hid (HB3.out.trans (hb4.mono HB3.out.size))
     obtain ⟨g, rfl⟩ : ∃ g, ka = some ⟨g, 0, none⟩ := by
      rcases ho4.2 with ⟨h1, h2⟩ | ⟨g, cap, cur, hv, _⟩
      ·
       have h2 : n.kids.length = 0 := h2
       omega
      ·
       injection hv with e1; exact ⟨g, e1⟩
     have hcap : n.kids.length ≤ kc := (by obtain ⟨c9, e, h, _⟩ := own_form ho4 rfl; injection e with _ _ e; have h : n.kids.length ≤ c9 := h; omega)
     have hcap2 : kn ≤ kc := by omega
     have hW5 : Below W4.heap.size W4 (W4.alloc (.cells (ndCells n (some ⟨g, 0, none⟩) kc) 70)) := (Below.refl _ _).alloc (Nat.le_refl _) _
     have hnew := heap_alloc_new W4 (.cells (ndCells n (some ⟨g, 0, none⟩) kc) 70)
     have HB5 := Lib.hid (HB4.out.alloc HB4.out.size (.cells (ndCells n (some ⟨g, 0, none⟩) kc) 70))
     have HO5 := Lib.hid ((ownsRow_fr HO3.out (Fr.of_below (D := fun _ => False) hb4) (fun _ _ e => e)).alloc (.cells (ndCells n (some ⟨g, 0, none⟩) kc) 70))
     have HU5 := Lib.hid ((HU3.out.fr (Fr.of_below (D := fun _ => False) hb4) (fun e => e)).fr (Fr.of_below (D := fun _ => False) hW5) (fun e => e))
     have HS5 := Lib.hid (Sl.of_own (ownsRow_take (ho4.alloc (.cells (ndCells n (some ⟨g, 0, none⟩) kc) 70)) (show kn ≤ n.kids.length by omega)))
     have hks : IntKind.i64.wrap (kn : Int) = (kn : Int) := IntWalk.i64_in _ (by omega)
     clear TG ho4 hb4 hW5
     go_wp2
     obtain ⟨W5, hW5⟩ : ∃ W5, W4.alloc (.cells (ndCells n (some ⟨g, 0, none⟩) kc) 70) = W5 := ⟨_, rfl⟩
     have hz5 : W4.heap.size < W5.heap.size := by rw [← hW5]; simp
     simp only [ndCells] at HB5 HO5 HU5 HS5 hnew hW5
     rw [hW5] at HB5 HO5 HU5 HS5 hnew ⊢
     generalize hnb : W4.heap.size = nbk at hnew hz5 ⊢
     clear hnb hW5
     have HNW := Lib.hid hnew
     clear hnew
     rw [← List.map_take] at HS5
     go_loopw [12, 44] (fun p q wr => ∃ (i : Nat) (u : Value), p = u ∧ q = .int .i64 (i : Int) ∧ i ≤ kn ∧ wr.ownsRow W5.heap.size 45 1 u (((n.kids.take kn).take i).filter (seenP M n)).length ((((n.kids.take kn).take i).filter (seenP M n)).map idV) ∧ Below W5.heap.size W5 wr) (fun _ q wr => kn - (intOf q).toNat)
     case atStart => exact ⟨0, _, rfl, rfl, Nat.zero_le _, ⟨rfl, .inl ⟨rfl, rfl⟩⟩, Below.refl _ _⟩
     case round =>
      obtain ⟨i, u, hu, rfl, hi, hou, hb6⟩ := hrel
      have hu := hu.symm
      subst hu
      have HOU := Lib.hid hou
      have HB6 := Lib.hid hb6
      have hlk : (n.kids.take kn).length = kn := by rw [List.length_take]; omega
      by_cases hlt : i < kn
      ·
       obtain ⟨b, o, hbo, _, kcl⟩ := (show Sl W5 W5.heap.size (.slice (some ⟨g, 0, none⟩) kn kc) (n.kids.take kn).length ((n.kids.take kn).map idV) from by rw [hlk]; exact HS5.out).below HB6.out (Nat.le_refl _) |>.mapAt (show i < (n.kids.take kn).length by omega)
       injection hbo with hbo
       injection hbo with hbo1 hbo2
       subst hbo1
       subst hbo2
       rw [Nat.zero_add] at kcl
       have hxm : (n.kids.take kn)[i] ∈ n.kids := List.mem_of_mem_take (List.getElem_mem _)
       have htk : (n.kids.take kn).take (i + 1) = (n.kids.take kn).take i ++ [(n.kids.take kn)[i]] := List.take_succ_eq_append_getElem (by omega)
       generalize (n.kids.take kn)[i] = x at kcl hxm htk
       have hxl := HNK.out x hxm
       have HTK := Lib.hid htk
       have TGx := Lib.hid ((HA.out.below (HB5.out.trans (hb6.mono HB5.out.size))).getN hxl)
       have hnwr : wr.heap[nbk]? = some (.cells (ndCells n (some ⟨g, 0, none⟩) kc) 70 (0, 0)) := (hb6.block nbk hz5).trans HNW.out
       have e0 := cell_of_row wr nbk 0 _ _ (0, 0) hnwr
       simp at e0
       clear hou hb6 htk hxm
       go_wp2_with fail
       refine TGx.out.mono ?_
       rintro e w2 ⟨kax, kcx, rfl, hox, hbx⟩
       have HB8 := Lib.hid (HB6.out.trans (hbx.mono HB6.out.size))
       have HOU := Lib.hid (ownsRow_fr HOU.out (Fr.of_below (D := fun _ => False) hbx) (fun _ _ e => e))
       have hnw2 : w2.heap[nbk]? = some (.cells (ndCells n (some ⟨g, 0, none⟩) kc) 70 (0, 0)) := (HB8.out.block nbk hz5).trans HNW.out
       have d0 := cell_of_row w2 nbk 0 _ _ (0, 0) hnw2
       simp at d0
       have hz8 := HB8.out.size
       have hnl2 : nbk < w2.heap.size := (Array.getElem?_eq_some_iff.1 hnw2).1
       have hPX : seenP M n x = ((decide (n.kind = 5) && decide ((ndAt M x).kind = 6)) || (decide (n.kind = 3) && decide ((ndAt M x).kind = 4))) := rfl
       generalize ndAt M x = m at hPX
       generalize hps : seenP M n x = ps at hPX
       have HPX := Lib.hid hps
       have hfl : (((n.kids.take kn).take i).filter (seenP M n)).length ≤ 1000000 := by
        have h1 := List.length_filter_le (seenP M n) ((n.kids.take kn).take i)
        have h2 : ((n.kids.take kn).take i).length ≤ kn := by simp; omega
        omega
       clear TGx hox hbx hnwr e0 hnw2 hps
       by_cases n5 : n.kind = 5
       ·
        have q5 : ((n.kind : Int) == 5) = true := by simp [n5]
        have q3 : ((n.kind : Int) == 3) = false := by simp [n5]
        by_cases m6 : m.kind = 6
        ·
         have q6 : ((m.kind : Int) == 6) = true := by simp [m6]
         have hp2 : ps = true := by rw [hPX]; simp [n5, m6]
         subst hp2
         clear hPX n5 m6
         go_wp2_with (at_builtin; refine wpList_append_own_at _ rfl (.tmp 72) (.tmp 74) _ rfl W5.heap.size 45 j0 _ 1 8 Tryz.underlying68 hj hj0 hj1 hj2 rfl (by decide) _ (((n.kids.take kn).take i).filter (seenP M n)).length ((((n.kids.take kn).take i).filter (seenP M n)).map idV) rfl ((HOU.out.alloc _).alloc _) ⟨w2.heap.size + 1, 0, none⟩ 1 1 [idV x] rfl rfl ?_ ?_ ?_ ?_ ?_ ?_)
         all_goals first
          | intro v3 W3' own3 g3 _ at3
          | exact cells_new2 _ _ _ _
          | (unfold maxLen; omega)
          | omega
          | (simp; omega)
          | (intro u hu; simp only [List.mem_singleton] at hu; subst hu; rfl)
         have HOU3 := Lib.hid (show W3'.ownsRow W5.heap.size 45 1 v3 (((n.kids.take kn).take (i + 1)).filter (seenP M n)).length ((((n.kids.take kn).take (i + 1)).filter (seenP M n)).map idV) from by
          rw [HTK.out, List.filter_append]
          simp only [List.filter_cons, HPX.out, if_true, List.filter_nil]
          rw [List.map_append, List.length_append]
          exact own3)
         have HB9 := Lib.hid (((HB8.out.alloc HB8.out.size _).alloc (by have := HB8.out.size; simp; omega) _).grown g3 (by have := HB8.out.size; simp; omega) (fun q hq => (HOU.out.lt q hq).1))
         clear own3 g3 at3
         go_wp2
         go_roundw
         case rel => exact ⟨i + 1, v3, rfl, by go_num, by omega, HOU3.out, HB9.out⟩
         case measure => simp [intOf]; omega
        ·
         have q6 : ((m.kind : Int) == 6) = false := by simp; omega
         have hp2 : ps = false := by rw [hPX]; simp [n5, m6]
         subst hp2
         clear hPX n5 m6
         have HOU3 := Lib.hid (show w2.ownsRow W5.heap.size 45 1 u (((n.kids.take kn).take (i + 1)).filter (seenP M n)).length ((((n.kids.take kn).take (i + 1)).filter (seenP M n)).map idV) from by
          rw [HTK.out, List.filter_append]
          simp only [List.filter_cons, HPX.out, if_false, List.filter_nil, List.append_nil, Bool.false_eq_true]
          exact HOU.out)
         go_wp2
         go_roundw
         case rel => exact ⟨i + 1, u, rfl, by go_num, by omega, HOU3.out.alloc _, HB8.out.alloc HB8.out.size _⟩
         case measure => simp [intOf]; omega
       ·
        have q5 : ((n.kind : Int) == 5) = false := by simp; omega
        by_cases n3 : n.kind = 3
        ·
         have q3 : ((n.kind : Int) == 3) = true := by simp [n3]
         by_cases m4 : m.kind = 4
         ·
          have q4 : ((m.kind : Int) == 4) = true := by simp [m4]
          have hp2 : ps = true := by rw [hPX]; simp [n3, m4]
          subst hp2
          clear hPX n5 n3 m4
          go_wp2_with (at_builtin; refine wpList_append_own_at _ rfl (.tmp 72) (.tmp 74) _ rfl W5.heap.size 45 j0 _ 1 8 Tryz.underlying68 hj hj0 hj1 hj2 rfl (by decide) _ (((n.kids.take kn).take i).filter (seenP M n)).length ((((n.kids.take kn).take i).filter (seenP M n)).map idV) rfl ((HOU.out.alloc _).alloc _) ⟨w2.heap.size + 1, 0, none⟩ 1 1 [idV x] rfl rfl ?_ ?_ ?_ ?_ ?_ ?_)
          all_goals first
           | intro v3 W3' own3 g3 _ at3
           | exact cells_new2 _ _ _ _
           | (unfold maxLen; omega)
           | omega
           | (simp; omega)
           | (intro u hu; simp only [List.mem_singleton] at hu; subst hu; rfl)
          have HOU3 := Lib.hid (show W3'.ownsRow W5.heap.size 45 1 v3 (((n.kids.take kn).take (i + 1)).filter (seenP M n)).length ((((n.kids.take kn).take (i + 1)).filter (seenP M n)).map idV) from by
           rw [HTK.out, List.filter_append]
           simp only [List.filter_cons, HPX.out, if_true, List.filter_nil]
           rw [List.map_append, List.length_append]
           exact own3)
          have HB9 := Lib.hid (((HB8.out.alloc HB8.out.size _).alloc (by have := HB8.out.size; simp; omega) _).grown g3 (by have := HB8.out.size; simp; omega) (fun q hq => (HOU.out.lt q hq).1))
          clear own3 g3 at3
          go_wp2
          go_roundw
          case rel => exact ⟨i + 1, v3, rfl, by go_num, by omega, HOU3.out, HB9.out⟩
          case measure => simp [intOf]; omega
         ·
          have q4 : ((m.kind : Int) == 4) = false := by simp; omega
          have hp2 : ps = false := by rw [hPX]; simp [n3, m4]
          subst hp2
          clear hPX n5 n3 m4
          have HOU3 := Lib.hid (show w2.ownsRow W5.heap.size 45 1 u (((n.kids.take kn).take (i + 1)).filter (seenP M n)).length ((((n.kids.take kn).take (i + 1)).filter (seenP M n)).map idV) from by
           rw [HTK.out, List.filter_append]
           simp only [List.filter_cons, HPX.out, if_false, List.filter_nil, List.append_nil, Bool.false_eq_true]
           exact HOU.out)
          go_wp2
          go_roundw
          case rel => exact ⟨i + 1, u, rfl, by go_num, by omega, HOU3.out.alloc _, HB8.out.alloc HB8.out.size _⟩
          case measure => simp [intOf]; omega
        ·
         have q3 : ((n.kind : Int) == 3) = false := by simp; omega
         have hp2 : ps = false := by rw [hPX]; simp [n5, n3]
         subst hp2
         clear hPX n5 n3
         have HOU3 := Lib.hid (show w2.ownsRow W5.heap.size 45 1 u (((n.kids.take kn).take (i + 1)).filter (seenP M n)).length ((((n.kids.take kn).take (i + 1)).filter (seenP M n)).map idV) from by
          rw [HTK.out, List.filter_append]
          simp only [List.filter_cons, HPX.out, if_false, List.filter_nil, List.append_nil, Bool.false_eq_true]
          exact HOU.out)
         go_wp2
         go_roundw
         case rel => exact ⟨i + 1, u, rfl, by go_num, by omega, HOU3.out.alloc _, HB8.out.alloc HB8.out.size _⟩
         case measure => simp [intOf]; omega
      ·
       obtain rfl : i = kn := by omega
       have hsl : (n.kids.take i).take i = n.kids.take i := List.take_of_length_le (by simp; omega)
       rw [hsl] at HOU
       have HB10 := Lib.hid (HB5.out.trans (hb6.mono HB5.out.size))
       have HO10 := Lib.hid (Sl.of_own (ownsRow_fr HO5.out (Fr.of_below (D := fun _ => False) hb6) (fun _ _ e => e)))
       have HU10 := Lib.hid (HU5.out.fr (Fr.of_below (D := fun _ => False) hb6) (fun e => e))
       have hfl : ((n.kids.take i).filter (seenP M n)).length ≤ 1000000 := by
        have h1 := List.length_filter_le (seenP M n) (n.kids.take i)
        have h2 : (n.kids.take i).length ≤ i := by simp; omega
        omega
       have hz6 := hb6.size
       have hwz : w.heap.size < W5.heap.size := by have := HU5.out.lt; omega
       clear hou hb6 hsl hlk
       go_wp2_with (at_builtin; refine wpList_append_sl _ rfl (.tmp 77) (.tmp 78) _ rfl W5.heap.size 45 j0 _ 8 Tryz.underlying68 hj hj0 hj1 hj2 rfl _ ((n.kids.take i).filter (seenP M n)).length (((n.kids.take i).filter (seenP M n)).map idV) rfl HOU.out wr.heap.size _ out.length (out.map idV) rfl HO10.out ?_ (ids_one _) ?_ ?_ ?_ ?_)
       all_goals first
        | intro v7 W7 own7 g7 at7
        | (simp; done)
        | (unfold maxLen; omega)
        | omega
       have HS7 := Lib.hid (show SnSt M par F w.heap.size R w f v7 p W7 (id :: seen) (seenL M n i ++ out) from by
        have hf7 : Fr (fun q => W5.heap.size ≤ q) _ W7 := Fr.of_grown g7 (fun q e => (HOU.out.lt q e).1)
        refine ⟨?_, HU10.out.fr hf7 (fun e => by omega), HB10.out.trans ((hf7.imp (D' := fun q => w.heap.size ≤ q) (fun q _ e => by omega)).below' HB10.out.size), Nat.le_refl _, HRUN.out, by simp; omega, ?_, hpl⟩
        ·
         rw [List.length_append, List.map_append]
         exact ownsRow_base own7 (by omega)
        ·
         rw [List.length_append, List.length_cons]
         unfold seenL
         omega)
       clear own7 g7 at7
       go_wp2
       go_roundw
       case rel => exact ⟨v7, p, rfl, rfl, f, _, _, HS7.out⟩
       case measure =>
        rw [HF0.out]
        refine Nat.lt_succ_of_le (Hg.least_le ?_)
        exact ⟨p, _, _, rfl, HS7.out⟩
end Go.Proofs.YtoelmnamlnbdhaaGreatDoor
