/-
  Part of a proof: contracts of functions that the claim reaches, and plain lemmas.
-/
import Derived.Test.YtihmbbkppkgcmaaGreatDoorKcAC
set_option linter.all false
namespace Hg
theorem deepGo_pos (D : Nat → Nat) : ∀ (ks : List Nat) (m : Nat), 0 < deepGo D ks m ↔ ∀ k ∈ ks, 0 < D k
 | [], m => by simp [deepGo]
 | k :: ks, m => by
   rw [deepGo]
   by_cases h : D k = 0
   ·
    rw [if_pos h]; simp [h]
   ·
    rw [if_neg h, deepGo_pos D ks]
    simp only [List.mem_cons, forall_eq_or_imp]
    exact ⟨fun x => ⟨by omega, x⟩, fun x => x.2⟩
theorem deepF_pos (l : List Row) (n id : Nat) : 0 < deepF l (n + 1) id ↔ ∀ k ∈ kidsAt l ((atI l id).getD 0), 0 < deepF l n k := by
 rw [deepF, deepGo_pos]
theorem deepF_mono (l : List Row) : ∀ (n id : Nat), 0 < deepF l n id → 0 < deepF l (n + 1) id
 | 0, id, h => by simp [deepF] at h
 | n + 1, id, h => by
   rw [deepF_pos] at h ⊢
   exact fun k hk => deepF_mono l n k (h k hk)
theorem find_atI (l : List Row) (id : Nat) : l.find? (fun r => r.id == id) = (atI l id).bind (fun k => l[k]?) := by
 unfold atI
 induction l with
 | nil => rfl
 | cons r l ih =>
   rw [List.find?_cons, List.findIdx?_cons]
   by_cases h : (r.id == id) = true
   ·
    simp [h]
   ·
    simp only [Bool.not_eq_true] at h
    simp only [h, ih, Bool.false_eq_true, if_false]
    cases List.findIdx? (fun r => r.id == id) l <;> simp
theorem nodeOf_at (l : List Row) (id k : Nat) (h : atI l id = some k) : nodeOf l id = (rowAt l k).node := by
 have hk : k < l.length := by
  unfold atI at h
  obtain ⟨hk, _⟩ := List.findIdx?_eq_some_iff_getElem.1 h
  exact hk
 unfold nodeOf rowAt
 rw [find_atI, h]
 simp [hk]
theorem nodeOf_none (l : List Row) (id : Nat) (h : atI l id = none) : nodeOf l id = Node.zero := by
 unfold nodeOf
 rw [find_atI, h]; rfl
theorem nodeOf_kids (l : List Row) (id : Nat) : ∀ k ∈ (nodeOf l id).kids, k ∈ kidsAt l ((atI l id).getD 0) := by
 intro k hk
 cases h : atI l id with
 | none => rw [nodeOf_none l id h] at hk; simp [Node.zero] at hk
 | some i => rw [nodeOf_at l id i h] at hk; exact hk
def Good (l : List Row) (id : Nat) : Prop := 0 < deepF l 200 id
theorem Good.kid {l : List Row} {id k : Nat} (h : Good l id) (hk : k ∈ kidsAt l ((atI l id).getD 0)) : Good l k :=
 deepF_mono l 199 k ((deepF_pos l 199 id).1 h k hk)
theorem Good.kid' {l : List Row} {id k : Nat} (h : Good l id) (hk : k ∈ (nodeOf l id).kids) : Good l k := h.kid (nodeOf_kids l id k hk)
theorem depthGo_ends (l : List Row) (D : Nat → Option Nat) (kind : Nat) : ∀ (ks : List Nat) (m : Nat), (∀ k ∈ ks, ∃ d, D k = some d) → ∃ r, depthGo l D kind ks m = some r
 | [], m, h => ⟨_, rfl⟩
 | k :: ks, m, h => by
   obtain ⟨d, hd⟩ := h k (by simp)
   rw [depthGo, hd]
   exact depthGo_ends l D kind ks _ fun k' hk' => h k' (by simp [hk'])
theorem depthF_ends (l : List Row) : ∀ (n id : Nat), 0 < deepF l n id → ∃ d, depthF l n id = some d
 | 0, id, h => by simp [deepF] at h
 | n + 1, id, h => by
   rw [depthF]
   exact depthGo_ends l _ _ _ _ fun k hk => depthF_ends l n k ((deepF_pos l n id).1 h k (nodeOf_kids l id k hk))
theorem visitGo_ends (l : List Row) (V : Vis → Nat → List Nat → Option Vis) : ∀ (ks seen : List Nat) (v : Vis), (∀ k ∈ ks, ∀ v seen, ∃ r, V v k seen = some r) → ∃ r, visitGo l V ks seen v = some r
 | [], seen, v, h => ⟨_, rfl⟩
 | k :: ks, seen, v, h => by
   obtain ⟨d, hd⟩ := h k (by simp) v seen
   rw [visitGo, hd]
   exact visitGo_ends l V ks _ _ fun k' hk' => h k' (by simp [hk'])
theorem visitF_ends (l : List Row) (fn : Nat) : ∀ (n : Nat) (v : Vis) (id : Nat) (seen : List Nat), 0 < deepF l n id → ∃ d, visitF l fn n v id seen = some d
 | 0, v, id, seen, h => by simp [deepF] at h
 | n + 1, v, id, seen, h => by
   rw [visitF]
   exact visitGo_ends l _ _ _ _ fun k hk v seen => visitF_ends l fn n v k seen ((deepF_pos l n id).1 h k (nodeOf_kids l id k hk))
theorem walkGo_all (l : List Row) (P : Nat → Prop) (hP : ∀ i k, P i → atI l i = some k → ∀ c ∈ kidsAt l k, P c) : ∀ (f : Nat) (wait out r : List Nat), walkGo l f wait out = some r → (∀ i ∈ wait, P i) →
 (∀ i ∈ out, P i ∧ (atI l i).isSome = true) → out.Nodup → (∀ i ∈ r, P i ∧ (atI l i).isSome = true) ∧ r.Nodup
 | 0, wait, out, r, h, _, _, _ => by simp [walkGo] at h
 | f + 1, [], out, r, h, hw, ho, hn => by
   rw [walkGo] at h; injection h with h; subst h; exact ⟨ho, hn⟩
 | f + 1, i :: wait, out, r, h, hw, ho, hn => by
   rw [walkGo] at h
   have hi := hw i (by simp)
   have hw' : ∀ j ∈ wait, P j := fun j hj => hw j (by simp [hj])
   cases hk : atI l i with
   | none => rw [hk] at h; exact walkGo_all l P hP f _ _ _ h hw' ho hn
   | some k =>
     rw [hk] at h
     dsimp only at h
     by_cases hin : isIn out i = true
     ·
      rw [if_pos hin] at h; exact walkGo_all l P hP f _ _ _ h hw' ho hn
     ·
      rw [if_neg hin] at h
      refine walkGo_all l P hP f _ _ _ h (fun j hj => ?_) (fun j hj => ?_) ?_
      ·
       rcases List.mem_append.1 hj with hj | hj
       ·
        exact hP i k hi hk j hj
       ·
        exact hw' j hj
      ·
       rcases List.mem_append.1 hj with hj | hj
       ·
        exact ho j hj
       ·
        simp at hj; subst hj; exact ⟨hi, by rw [hk]; rfl⟩
      ·
       rw [List.nodup_append]
       refine ⟨hn, by simp, fun a ha b hb => ?_⟩
       simp at hb
       subst hb
       intro e
       subst e
       unfold isIn at hin
       rw [List.contains_iff_mem] at hin
       exact hin ha
theorem walk_all (l : List Row) (id : Nat) (P : Nat → Prop) (hP : ∀ i k, P i → atI l i = some k → ∀ c ∈ kidsAt l k, P c) (h : P id) : (∀ i ∈ walk l id, P i ∧ (atI l i).isSome = true) ∧ (walk l id).Nodup :=
 walkGo_all l P hP _ _ _ _ (walk_is l id) (fun i hi => by simp at hi; subst hi; exact h) (fun i hi => by simp at hi) List.nodup_nil
theorem pigeon : ∀ (a b : List Nat), a.Nodup → (∀ x ∈ a, x ∈ b) → b.length ≤ a.length → ∀ y ∈ b, y ∈ a
 | [], b, hn, hs, hl => fun y hy => by
   have : b = [] := List.eq_nil_of_length_eq_zero (by simpa using hl)
   rw [this] at hy; exact hy
 | x :: a, b, hn, hs, hl => fun y hy => by
   rw [List.nodup_cons] at hn
   by_cases e : y = x
   ·
    simp [e]
   ·
    have hx := hs x (by simp)
    have hlen := List.length_erase_of_mem hx
    have hpos : 0 < b.length := List.length_pos_of_mem hx
    have := pigeon a (b.erase x) hn.2 (fun z hz => by
     have hzx : z ≠ x := fun e => hn.1 (e ▸ hz)
     exact (List.mem_erase_of_ne hzx).2 (hs z (by simp [hz]))) (by simp at hl; omega) y ((List.mem_erase_of_ne e).2 hy)
    simp [this]
theorem atI_mem (l : List Row) (id : Nat) : (atI l id).isSome = true ↔ id ∈ l.map (fun r => r.id) := by
 unfold atI
 rw [List.findIdx?_isSome]
 simp [List.any_eq_true]
theorem walk_len (l : List Row) (id : Nat) : (walk l id).length ≤ l.length := by
 obtain ⟨h1, h2⟩ := walk_all l id (fun _ => True) (fun _ _ _ _ _ _ => trivial) trivial
 rcases Nat.lt_or_ge l.length (walk l id).length with h | h
 ·
  exfalso
  have hs : ∀ x ∈ walk l id, x ∈ l.map (fun r => r.id) := fun x hx => (atI_mem l x).1 (h1 x hx).2
  have key : ∀ (a b : List Nat), a.Nodup → (∀ x ∈ a, x ∈ b) → a.length ≤ b.length := by
   intro a
   induction a with
   | nil => intro b _ _; simp
   | cons x a ih =>
     intro b hn hs
     rw [List.nodup_cons] at hn
     have hx := hs x (by simp)
     have hlen := List.length_erase_of_mem hx
     have hpos : 0 < b.length := List.length_pos_of_mem hx
     have := ih (b.erase x) hn.2 fun z hz => by
      have hzx : z ≠ x := fun e => hn.1 (e ▸ hz)
      exact (List.mem_erase_of_ne hzx).2 (hs z (by simp [hz]))
     simp; omega
  have := key _ _ h2 hs
  simp at this
  omega
 ·
  exact h
theorem tree_good {l : List Row} (h : tree l = true) : Good l 1 ∧ ∀ r ∈ l, Good l r.id := by
 unfold tree at h
 cases hk : atI l 1 with
 | none => rw [hk] at h; simp at h
 | some k =>
   rw [hk] at h
   dsimp only at h
   by_cases hc : (rowAt l k).node.kind ≠ 1 ∨ (walk l 1).length ≠ l.length
   ·
    rw [if_pos hc] at h; simp at h
   ·
    rw [if_neg hc] at h
    cases ht : treeRows l l 0 with
    | none => rw [ht] at h; simp at h
    | some n =>
      rw [ht] at h
      simp only [Bool.and_eq_true, decide_eq_true_eq] at h
      have hg : Good l 1 := h.2
      have hlen : (walk l 1).length = l.length := Classical.byContradiction fun x => hc (.inr x)
      obtain ⟨h1, h2⟩ := walk_all l 1 (Good l) (fun i k hi hk c hc => hi.kid (by rw [hk]; exact hc)) hg
      refine ⟨hg, fun r hr => (h1 r.id ?_).1⟩
      exact pigeon (walk l 1) (l.map (fun r => r.id)) h2 (fun x hx => (atI_mem l x).1 (h1 x hx).2) (by simp [hlen]) r.id (List.mem_map.2 ⟨r, hr, rfl⟩)
theorem shapedDeep_ends (l : List Row) : ∀ (rs : List Row), (∀ r ∈ rs, Good l r.id) → ∃ b, shapedDeep l rs = some b
 | [], h => ⟨_, rfl⟩
 | r :: rs, h => by
   rw [shapedDeep]
   have ih := shapedDeep_ends l rs fun r' hr' => h r' (by simp [hr'])
   by_cases hk : r.node.kind = 3
   ·
    rw [if_pos hk]
    obtain ⟨d, hd⟩ := depthF_ends l 201 r.id (deepF_mono l 200 _ (h r (by simp)))
    rw [hd]
    dsimp only
    by_cases h9 : 90 < d
    ·
     rw [if_pos h9]; exact ⟨_, rfl⟩
    ·
     rw [if_neg h9]; exact ih
   ·
    rw [if_neg hk]; exact ih
theorem shaped_ends (l : List Row) : ∃ b, shaped l = some b := by
 unfold shaped
 cases ht : tree l
 ·
  exact ⟨_, rfl⟩
 ·
  rw [if_neg (by simp)]
  by_cases hs : shapedGo l l = false
  ·
   rw [if_pos hs]; exact ⟨_, rfl⟩
  ·
   rw [if_neg hs]
   exact shapedDeep_ends l l (tree_good ht).2
theorem shaped_tree {l : List Row} (h : shaped l = some true) : tree l = true := by
 unfold shaped at h
 cases ht : tree l
 ·
  rw [ht] at h; simp at h
 ·
  rfl
theorem allFuncs_ends (l : List Row) : ∀ (fs : List Nat) (fn : List Str) (a : Alls), (∀ f ∈ fs, Good l f) → ∃ r, allFuncs l fs fn a = some r
 | [], fn, a, h => ⟨_, rfl⟩
 | f :: fs, fn, a, h => by
   rw [allFuncs]
   obtain ⟨v, hv⟩ := visitF_ends l f 201 a.vis f [] (deepF_mono l 200 _ (h f (by simp)))
   rw [hv]
   exact allFuncs_ends l fs _ _ fun f' hf' => h f' (by simp [hf'])
theorem allMods_ends (l : List Row) : ∀ (ms : List Nat) (mn : List Str) (a : Alls), (∀ m ∈ ms, Good l m) → ∃ r, allMods l ms mn a = some r
 | [], mn, a, h => ⟨_, rfl⟩
 | m :: ms, mn, a, h => by
   rw [allMods]
   obtain ⟨r, hr⟩ := allFuncs_ends l (nodeOf l m).kids [] a fun f hf => (h m (by simp)).kid' hf
   rw [hr]
   exact allMods_ends l ms _ _ fun f' hf' => h f' (by simp [hf'])
theorem all_ends {l : List Row} (h : tree l = true) : ∃ a, allOf l = some a := by
 obtain ⟨r, hr⟩ := allMods_ends l (nodeOf l 1).kids [] ⟨false, ⟨false, false⟩⟩ fun m hm => (tree_good h).1.kid' hm
 unfold allOf
 rw [hr]
 exact ⟨_, rfl⟩
theorem right11_ends (l : List Row) : ∃ r, right11 l = some r := by
 unfold right11
 obtain ⟨b, hb⟩ := shaped_ends l
 rw [hb]
 cases b with
 | false => exact ⟨_, rfl⟩
 | true =>
   obtain ⟨a, ha⟩ := all_ends (shaped_tree hb)
   dsimp only
   rw [ha]
   exact ⟨_, rfl⟩
end Hg
namespace Hg
def Nk (M : Nat) (n : Node) : Prop := n.kind ≤ 20 ∧ n.num ≤ 9223372036854775807 ∧ n.name.length ≤ M
theorem r8number_le (s : Str) : r8number s ≤ 9223372036854775807 := by
 unfold r8number
 split
 ·
  decide
 ·
  split
  ·
   decide
  ·
   split
   ·
    split
    ·
     decide
    ·
     omega
   ·
    decide
namespace Rd
theorem opOf_le (t : Str) : opOf t ≤ 13 := by
 unfold opOf
 split
 ·
  rename_i i h
  obtain ⟨h1, _⟩ := List.findIdx?_eq_some_iff_getElem.1 h
  have : ops.length = 13 := rfl
  omega
 ·
  omega
def NBs (s : Rd) : Prop := ∀ M, (∀ t ∈ s.L, t.text.length ≤ M) → ∀ r ∈ s.rows, Nk M r.node
def NdOk (s : Rd) (n : Node) : Prop := ∀ M, (∀ t ∈ s.L, t.text.length ≤ M) → Nk M n
theorem text_le (s : Rd) (k M : Nat) (h : ∀ t ∈ s.L, t.text.length ≤ M) : (s.text k).length ≤ M := by
 unfold text
 split
 ·
  simp
 ·
  split
  ·
   rename_i t ht
   split
   ·
    exact h t (List.mem_of_getElem? ht)
   ·
    simp
  ·
   simp
theorem nd_ok {s : Rd} {k : Nat} (h : k ≤ 20) : NdOk s (nd k) := fun M _ => ⟨h, by show (0 : Int) ≤ _; decide, Nat.zero_le _⟩
theorem num_ok {s : Rd} {k : Nat} {v : Int} (h : k ≤ 20) (hv : v ≤ 9223372036854775807) : NdOk s (ndNum k v) := fun M _ => ⟨h, hv, Nat.zero_le _⟩
theorem named_ok {s a : Rd} {k i : Nat} (hL : s.L = a.L) (h : k ≤ 20) : NdOk s (ndNamed k (a.text i)) := fun M hM => ⟨h, by show (0 : Int) ≤ _; decide, by
 show (a.text i).length ≤ M
 exact text_le a i M (by rw [← hL]; exact hM)⟩
structure NS (s s' : Rd) : Prop where
 L : s'.L = s.L
 nb : NBs s → NBs s'
theorem NS.refl (s : Rd) : NS s s := ⟨rfl, id⟩
theorem NS.trans {a b c : Rd} (h : NS a b) (k : NS b c) : NS a c := ⟨k.L.trans h.L, fun x => k.nb (h.nb x)⟩
theorem ns_same {s s' : Rd} (hL : s'.L = s.L) (h : s'.rows = s.rows) : NS s s' := ⟨hL, fun x M hM r hr => x M (by rw [← hL]; exact hM) r (by rw [← h]; exact hr)⟩
theorem ns_modify (s : Rd) (k : Nat) (f : Row → Row) (h1 : ∀ r, (f r).node.kind = r.node.kind) (h2 : ∀ r, (f r).node.name = r.node.name) (h3 : ∀ r, r.node.num ≤ 9223372036854775807 → (f r).node.num ≤ 9223372036854775807) : NS s { s with rows := s.rows.modify k f } :=
 ⟨rfl, fun x M hM r' hr => by
  obtain ⟨i, hi⟩ := List.mem_iff_getElem?.1 hr
  obtain ⟨r, h0, he⟩ := modify_inv hi
  have hx := x M hM r (List.mem_of_getElem? h0)
  subst he
  split
  ·
   exact ⟨by rw [h1]; exact hx.1, h3 r hx.2.1, by rw [h2]; exact hx.2.2⟩
  ·
   exact hx⟩
theorem ns_node (s : Rd) (u : Nat) (n : Node) (hn : NdOk s n) : NS s (s.node u n) := by
 have hp : NS s { s with rows := s.rows ++ [⟨s.rows.length + 1, n⟩] } := ⟨rfl, fun x M hM r hr => by
  rcases List.mem_append.1 hr with hr | hr
  ·
   exact x M hM r hr
  ·
   simp at hr; subst hr; exact hn M hM⟩
 unfold node
 dsimp only
 split
 ·
  exact hp.trans (ns_modify _ u (fun x => { x with node := { x.node with kids := x.node.kids ++ [s.rows.length + 1] } }) (fun _ => rfl) (fun _ => rfl) (fun _ h => h))
 ·
  exact hp
theorem ns_step (s : Rd) : NS s s.step := ns_same rfl rfl
theorem ns_setBad (s : Rd) : NS s s.setBad := ns_same rfl rfl
theorem ns_need (s : Rd) (t : Str) : NS s (s.need t) := ns_same (grow_need s t).L (calls_need s t).2.2
theorem ns_name (s : Rd) : NS s s.name := ns_same (grow_name s).L (calls_name s).2.2
theorem ns_typed (s : Rd) : NS s s.typed.2 := by unfold typed; split <;> first | exact ns_step s | exact ns_need s _
theorem ns_fault (s : Rd) (e : Nat) : NS s (s.fault e) := ns_same (grow_fault s e).L (fault_same s e).1
theorem ns_find (s : Rd) (t : Str) : NS s (s.find t).2 := by unfold find; split <;> first | exact NS.refl s | exact ns_fault s _
theorem ns_setRef (s : Rd) (k t : Nat) : NS s (s.setRef k t) := ns_modify s k _ (fun _ => rfl) (fun _ => rfl) (fun _ h => h)
theorem ns_setType (s : Rd) (k t : Nat) : NS s (s.setType k t) := ns_modify s k _ (fun _ => rfl) (fun _ => rfl) (fun _ h => h)
theorem ns_setNum (s : Rd) (k : Nat) (t : Str) : NS s (s.setNum k (opOf t : Nat)) := ns_modify s k _ (fun _ => rfl) (fun _ => rfl) (fun _ h => by have := opOf_le t; show ((opOf t : Nat) : Int) ≤ _; omega)
theorem ns_declare (s : Rd) (t : Str) (k : Nat) : NS s (s.declare t k) := ns_same (grow_declare s t k).L (declare_same s t k).2.2.2.2.2
theorem ns_enter (s : Rd) : NS s s.enter := by unfold enter; dsimp only; split <;> exact ns_same rfl rfl
theorem ns_leave (s : Rd) : NS s s.leave := ns_same rfl rfl
theorem ns_shut (s : Rd) : NS s s.shut := ns_same rfl rfl
theorem expr_ns (f : Nat) : (∀ s u s', expr f s u = some s' → NS s s') ∧ (∀ s u m s', call f s u m = some s' → NS s s') ∧ (∀ b s n s', args f b s n = some s' → NS s s') := by
 induction f with
 | zero => exact ⟨fun _ _ _ h => by simp [expr] at h, fun _ _ _ _ h => by simp [call] at h, fun _ _ _ _ h => by simp [args] at h⟩
 | succ f ih =>
   obtain ⟨ihe, ihc, iha⟩ := ih
   refine ⟨fun s u s' h => ?_, fun s u m s' h => ?_, fun b s n s' h => ?_⟩
   ·
    rw [expr] at h
    have nodeK : ∀ n : Node, NdOk s.step n → NS s (s.step.node u n) := fun n hn => (ns_step s).trans (ns_node s.step u n hn)
    by_cases h2 : s.text 2 ≠ []
    ·
     rw [if_pos h2] at h
     injection h with h; subst h
     exact nodeK _ (num_ok (by decide) (r8number_le _))
    rw [if_neg h2] at h
    by_cases h1 : s.text 1 ≠ []
    ·
     rw [if_pos h1] at h
     dsimp only at h
     by_cases hd : s.step.next [46] = true
     ·
      rw [if_pos hd] at h
      exact (ns_step s).trans (ihc _ _ _ _ h)
     ·
      rw [if_neg hd] at h
      injection h with h; subst h
      exact ((nodeK (nd 15) (by first | exact nd_ok (by decide) | exact num_ok (by decide) (by decide))).trans (ns_find _ _)).trans (ns_setRef _ _ _)
    rw [if_neg h1] at h
    by_cases ht : s.next wTrue = true
    ·
     rw [if_pos ht] at h
     injection h with h; subst h
     exact nodeK _ (by first | exact nd_ok (by decide) | exact num_ok (by decide) (by decide))
    rw [if_neg ht] at h
    by_cases hf : s.next wFalse = true
    ·
     rw [if_pos hf] at h
     injection h with h; subst h
     exact nodeK _ (by first | exact nd_ok (by decide) | exact num_ok (by decide) (by decide))
    rw [if_neg hf] at h
    by_cases hr : s.next wRead = true
    ·
     rw [if_pos hr] at h
     injection h with h; subst h
     exact nodeK _ (by first | exact nd_ok (by decide) | exact num_ok (by decide) (by decide))
    rw [if_neg hr] at h
    by_cases hn : s.next [33] = true ∨ s.next [45] = true
    ·
     rw [if_pos hn] at h
     dsimp only at h
     have hkind : (if s.next [33] = true then 16 else 17) = 16 ∨ (if s.next [33] = true then 16 else 17) = 17 := by split <;> simp
     generalize hk : (if s.next [33] = true then 16 else 17) = kind at h hkind
     have K1 := nodeK (nd kind) (nd_ok (by omega))
     by_cases hb : (s.step.node u (nd kind)).enter.bad = true
     ·
      rw [if_pos hb] at h
      injection h with h; subst h
      exact K1.trans ((ns_enter _).trans (ns_leave _))
     ·
      rw [if_neg hb] at h
      cases he : expr f (s.step.node u (nd kind)).enter s.rows.length with
      | none => rw [he] at h; simp at h
      | some s1 =>
        rw [he] at h
        injection h with h; subst h
        exact K1.trans ((ns_enter _).trans ((ihe _ _ _ he).trans (ns_leave _)))
    rw [if_neg hn] at h
    by_cases hp : s.next [40] = true
    ·
     rw [if_pos hp] at h
     dsimp only at h
     have K1 := nodeK (nd 18) (by first | exact nd_ok (by decide) | exact num_ok (by decide) (by decide))
     by_cases hb : (s.step.node u (nd 18)).enter.bad = true
     ·
      rw [if_pos hb] at h
      injection h with h; subst h
      exact K1.trans ((ns_enter _).trans (ns_leave _))
     ·
      rw [if_neg hb] at h
      cases he : expr f (s.step.node u (nd 18)).enter s.rows.length with
      | none => rw [he] at h; simp at h
      | some s1 =>
        rw [he] at h
        dsimp only at h
        have E1 := ihe _ _ _ he
        have e1 : NS s1 ((if opOf (s1.text 4) = 0 then (s1.setNum s.rows.length (opOf (s1.text 4) : Nat)).setBad else s1.setNum s.rows.length (opOf (s1.text 4) : Nat)).step) := by
         refine NS.trans ?_ (ns_step _)
         split
         ·
          exact (ns_setNum _ _ _).trans (ns_setBad _)
         ·
          exact ns_setNum _ _ _
        cases he2 : expr f ((if opOf (s1.text 4) = 0 then (s1.setNum s.rows.length (opOf (s1.text 4) : Nat)).setBad else s1.setNum s.rows.length (opOf (s1.text 4) : Nat)).step) s.rows.length with
        | none => rw [he2] at h; simp at h
        | some s2 =>
          rw [he2] at h
          injection h with h; subst h
          have E2 := ihe _ _ _ he2
          exact K1.trans ((ns_enter _).trans ((E1.trans e1).trans ((E2.trans (ns_need _ _)).trans (ns_leave _))))
    rw [if_neg hp] at h
    injection h with h; subst h
    exact ns_setBad s
   ·
    rw [call] at h
    try dsimp only at h
    have K1 := ns_node s u (nd 19) (nd_ok (by decide))
    have K2 := ((ns_need (s.node u (nd 19)) [46]).trans (ns_name _))
    generalize hbd : ({ ((s.node u (nd 19)).need [46]).name with calls := ((s.node u (nd 19)).need [46]).name.calls ++ [((s.node u (nd 19)).need [46]).name.idAt s.rows.length], wants := ((s.node u (nd 19)).need [46]).name.wants ++ [m ++ [32] ++ ((s.node u (nd 19)).need [46]).text 1] } : Rd) = b at h
    have K3 : NS ((s.node u (nd 19)).need [46]).name b := by rw [← hbd]; exact ns_same rfl rfl
    by_cases hb : b.enter.bad = true
    ·
     rw [if_pos hb] at h
     injection h with h; subst h
     exact K1.trans ((K2.trans K3).trans ((ns_enter _).trans (ns_leave _)))
    ·
     rw [if_neg hb] at h
     cases he : args f true (b.enter.need [40]) s.rows.length with
     | none => rw [he] at h; simp at h
     | some s1 =>
       rw [he] at h
       injection h with h; subst h
       have K4 := (K2.trans K3).trans ((ns_enter b).trans (ns_need _ [40]))
       exact K1.trans (K4.trans ((iha _ _ _ _ he).trans (ns_leave _)))
   ·
    rw [args] at h
    by_cases hb : s.bad = true
    ·
     rw [if_pos hb] at h
     injection h with h; subst h
     exact NS.refl _
    rw [if_neg hb] at h
    by_cases hn : s.next [41] = true
    ·
     rw [if_pos hn] at h
     injection h with h; subst h
     exact ns_step _
    rw [if_neg hn] at h
    have K1 : NS s (if b = true then s else s.need [44]) := by split <;> first | exact NS.refl _ | exact ns_need _ _
    cases he : expr f (if b = true then s else s.need [44]) n with
    | none => rw [he] at h; simp at h
    | some s1 =>
      rw [he] at h
      have K2 := K1.trans (ihe _ _ _ he)
      exact K2.trans (iha _ _ _ _ h)
theorem stmt_ns (f : Nat) : (∀ s u s', stmt f s u = some s' → NS s s') ∧ (∀ s u s', block f s u = some s' → NS s s') ∧ (∀ s n s', stmts f s n = some s' → NS s s') := by
 induction f with
 | zero => exact ⟨fun _ _ _ h => by simp [stmt] at h, fun _ _ _ h => by simp [block] at h, fun _ _ _ h => by simp [stmts] at h⟩
 | succ f ih =>
   obtain ⟨ihs, ihb, ihl⟩ := ih
   have E := expr_ns f
   refine ⟨fun s u s' h => ?_, fun s u s' h => ?_, fun s n s' h => ?_⟩
   ·
    rw [stmt] at h
    try dsimp only at h
    have nodeK : ∀ n : Node, NdOk s.step n → NS s (s.step.node u n) := fun n hn => (ns_step s).trans (ns_node s.step u n hn)
    by_cases h1 : s.next wLet = true
    ·
     rw [if_pos h1] at h
     have K0 := (ns_step s).trans (ns_name s.step)
     have K1 := K0.trans (ns_node s.step.name u (ndNamed 6 (s.step.text 1)) (named_ok (grow_name s.step).L (by decide)))
     have K2 := ((ns_typed (s.step.name.node u (ndNamed 6 (s.step.text 1)))).trans (ns_setType _ s.rows.length (s.step.name.node u (ndNamed 6 (s.step.text 1))).typed.1)).trans (ns_need _ [61])
     generalize ((s.step.name.node u (ndNamed 6 (s.step.text 1))).typed.2.setType s.rows.length (s.step.name.node u (ndNamed 6 (s.step.text 1))).typed.1).need [61] = a at h K2
     cases he : expr f a s.rows.length with
     | none => rw [he] at h; simp at h
     | some b =>
       rw [he] at h
       injection h with h
       subst h
       exact K1.trans (K2.trans ((E.1 _ _ _ he).trans ((ns_declare _ _ _).trans (ns_need _ _))))
    rw [if_neg h1] at h
    by_cases h2 : s.next wIf = true
    ·
     rw [if_pos h2] at h
     have K1 := nodeK (nd 8) (nd_ok (by decide))
     cases he : expr f (s.step.node u (nd 8)) s.rows.length with
     | none => rw [he] at h; simp at h
     | some a =>
       rw [he] at h
       dsimp only at h
       have K2 := E.1 _ _ _ he
       cases hb : block f a s.rows.length with
       | none => rw [hb] at h; simp at h
       | some b =>
         rw [hb] at h
         have K3 := ihb _ _ _ hb
         have K4 := (K2.trans K3).trans (ns_need b wElse)
         exact K1.trans (K4.trans (ihb _ _ _ h))
    rw [if_neg h2] at h
    by_cases h3 : s.next wWhile = true
    ·
     rw [if_pos h3] at h
     have K1 := nodeK (nd 9) (nd_ok (by decide))
     cases he : expr f (s.step.node u (nd 9)) s.rows.length with
     | none => rw [he] at h; simp at h
     | some a =>
       rw [he] at h
       have K2 := E.1 _ _ _ he
       exact K1.trans (K2.trans (ihb _ _ _ h))
    rw [if_neg h3] at h
    by_cases h4 : s.next wPrint = true
    ·
     rw [if_pos h4] at h
     have K1 := nodeK (nd 11) (nd_ok (by decide))
     cases he : expr f (s.step.node u (nd 11)) s.rows.length with
     | none => rw [he] at h; simp at h
     | some a =>
       rw [he] at h
       injection h with h
       subst h
       exact K1.trans ((E.1 _ _ _ he).trans (ns_need _ _))
    rw [if_neg h4] at h
    by_cases h5 : s.next wDo = true
    ·
     rw [if_pos h5] at h
     have K1 := nodeK (nd 12) (nd_ok (by decide))
     generalize (s.step.node u (nd 12)) = a at h K1
     cases he : call f a.name s.rows.length (a.text 1) with
     | none => rw [he] at h; simp at h
     | some b =>
       rw [he] at h
       injection h with h
       subst h
       exact (K1.trans (ns_name a)).trans ((E.2.1 _ _ _ _ he).trans (ns_need _ _))
    rw [if_neg h5] at h
    have K1 := (ns_name s).trans (ns_node s.name u (nd 7) (nd_ok (by decide)))
    generalize (s.name.node u (nd 7)) = a at h K1
    have K2 := ((ns_find a (s.text 1)).trans (ns_setRef _ s.rows.length (a.find (s.text 1)).1)).trans (ns_need _ [61])
    cases he : expr f (((a.find (s.text 1)).2.setRef s.rows.length (a.find (s.text 1)).1).need [61]) s.rows.length with
    | none => rw [he] at h; simp at h
    | some b =>
      rw [he] at h
      injection h with h
      subst h
      exact K1.trans (K2.trans ((E.1 _ _ _ he).trans (ns_need _ _)))
   ·
    rw [block] at h
    try dsimp only at h
    have K1 := ns_node s u (nd 5) (nd_ok (by decide))
    generalize hbd : ({ (s.node u (nd 5)) with level := (s.node u (nd 5)).level + 1 } : Rd) = b at h
    have K2 : NS (s.node u (nd 5)) b := by rw [← hbd]; exact ns_same rfl rfl
    by_cases hb : b.enter.bad = true
    ·
     rw [if_pos hb] at h
     injection h with h
     subst h
     exact (K1.trans K2).trans ((ns_enter _).trans ((ns_leave _).trans (ns_shut _)))
    ·
     rw [if_neg hb] at h
     cases he : stmts f (b.enter.need [123]) s.rows.length with
     | none => rw [he] at h; simp at h
     | some a =>
       rw [he] at h
       injection h with h
       subst h
       have K3 := K2.trans ((ns_enter b).trans (ns_need _ [123]))
       exact K1.trans (K3.trans ((ihl _ _ _ he).trans ((ns_leave _).trans (ns_shut _))))
   ·
    rw [stmts] at h
    by_cases hb : s.bad = true
    ·
     rw [if_pos hb] at h
     injection h with h
     subst h
     exact NS.refl _
    rw [if_neg hb] at h
    by_cases hn : s.next [125] = true
    ·
     rw [if_pos hn] at h
     injection h with h
     subst h
     exact ns_step _
    rw [if_neg hn] at h
    cases he : stmt f s n with
    | none => rw [he] at h; simp at h
    | some a =>
      rw [he] at h
      have K1 := ihs _ _ _ he
      exact K1.trans (ihl _ _ _ h)
theorem params_ns : ∀ (f : Nat) (b : Bool) (s : Rd) (k : Nat) (s' : Rd), params f b s k = some s' → NS s s' := by
 intro f
 induction f with
 | zero => intro b s k s' h; simp [params] at h
 | succ f ih =>
   intro b s k s' h
   rw [params] at h
   by_cases hb : s.bad = true
   ·
    rw [if_pos hb] at h; injection h with h; subst h; exact NS.refl _
   rw [if_neg hb] at h
   by_cases hn : s.next [41] = true
   ·
    rw [if_pos hn] at h; injection h with h; subst h; exact ns_step _
   rw [if_neg hn] at h
   dsimp only at h
   have K0 : NS s (if b = true then s else s.need [44]) := by split <;> first | exact NS.refl _ | exact ns_need _ _
   generalize (if b = true then s else s.need [44]) = r at h K0
   have K1 := K0.trans (ns_name r)
   have K2 := K1.trans (ns_node r.name k (ndNamed 4 (r.text 1)) (named_ok (grow_name r).L (by decide)))
   have K3 := K2.trans ((ns_typed _).trans ((ns_setType _ r.rows.length (r.name.node k (ndNamed 4 (r.text 1))).typed.1).trans (ns_declare _ (r.text 1) r.rows.length)))
   exact K3.trans (ih _ _ _ _ h)
theorem body_ns : ∀ (f : Nat) (s : Rd) (n : Nat) (s' : Rd), body f s n = some s' → NS s s' := by
 intro f
 induction f with
 | zero => intro s n s' h; simp [body] at h
 | succ f ih =>
   intro s n s' h
   rw [body] at h
   by_cases hb : s.bad = true ∨ s.next wReturn = true
   ·
    rw [if_pos hb] at h; injection h with h; subst h; exact NS.refl _
   rw [if_neg hb] at h
   cases he : stmt f s n with
   | none => rw [he] at h; simp at h
   | some a =>
     rw [he] at h
     have K1 := (stmt_ns f).1 _ _ _ he
     exact K1.trans (ih _ _ _ h)
theorem func_ns (f : Nat) (s : Rd) (u : Nat) (m : Str) (s' : Rd) (h : func f s u m = some s') : NS s s' := by
 unfold func at h
 dsimp only at h
 have K1 := (ns_need s wFunc).trans (ns_name _)
 have hT : ∀ x : Rd, x.L = s.L → NdOk x (ndNamed 3 ((s.need wFunc).text 1)) := fun x hx => named_ok (hx.trans (grow_need s wFunc).L.symm) (by decide)
 generalize (s.need wFunc).text 1 = t at h hT
 generalize (s.need wFunc).name = a at h K1
 have K2 : NS s (if inL a.funcs (m ++ [32] ++ t) = true then a.fault 10 else a) := K1.trans (by split <;> first | exact ns_fault _ _ | exact NS.refl _)
 generalize (if inL a.funcs (m ++ [32] ++ t) = true then a.fault 10 else a) = b at h K2
 change (match params f true (((b.node u (ndNamed 3 t)).openF (m ++ [32] ++ t) b.rows.length).need [40]) b.rows.length with
  | none => none
  | some r => _) = some s' at h
 have K3 := K2.trans (ns_node b u (ndNamed 3 t) (hT b K2.L))
 have K4 : NS (b.node u (ndNamed 3 t)) ((b.node u (ndNamed 3 t)).openF (m ++ [32] ++ t) b.rows.length) := ns_same rfl rfl
 have K5 := K3.trans K4
 generalize (b.node u (ndNamed 3 t)).openF (m ++ [32] ++ t) b.rows.length = c at h K5
 cases hp : params f true (c.need [40]) b.rows.length with
 | none => rw [hp] at h; simp at h
 | some p =>
   rw [hp] at h
   dsimp only at h
   have K6 := (ns_need c [40]).trans (params_ns _ _ _ _ _ hp)
   have K7 := K6.trans ((ns_typed p).trans (ns_setType _ b.rows.length p.typed.1))
   have K8 := K7.trans (ns_node _ b.rows.length (nd 5) (nd_ok (by decide)))
   have K9 := K8.trans (ns_need _ [123])
   generalize ((p.typed.2.setType b.rows.length p.typed.1).node b.rows.length (nd 5)).need [123] = q at h K9
   cases hq : body f q (p.typed.2.setType b.rows.length p.typed.1).rows.length with
   | none => rw [hq] at h; simp at h
   | some v =>
     rw [hq] at h
     dsimp only at h
     have K10 := body_ns _ _ _ _ hq
     have K11 := K10.trans (ns_need v wReturn)
     have K12 := K11.trans (ns_node (v.need wReturn) (p.typed.2.setType b.rows.length p.typed.1).rows.length (nd 10) (nd_ok (by decide)))
     cases hx : expr f ((v.need wReturn).node (p.typed.2.setType b.rows.length p.typed.1).rows.length (nd 10)) (v.need wReturn).rows.length with
     | none => rw [hx] at h; simp at h
     | some x =>
       rw [hx] at h
       injection h with h
       subst h
       exact K5.trans (K9.trans (K12.trans (((expr_ns f).1 _ _ _ hx).trans ((ns_need _ _).trans (ns_need _ _)))))
theorem funcsLoop_ns (f : Nat) : ∀ (g : Nat) (s : Rd) (m : Nat) (t : Str) (s' : Rd), funcsLoop f g s m t = some s' → NS s s' := by
 intro g
 induction g with
 | zero => intro s m t s' h; simp [funcsLoop] at h
 | succ g ih =>
   intro s m t s' h
   rw [funcsLoop] at h
   by_cases hb : s.bad = true
   ·
    rw [if_pos hb] at h; injection h with h; subst h; exact NS.refl _
   rw [if_neg hb] at h
   by_cases hn : s.next [125] = true
   ·
    rw [if_pos hn] at h; injection h with h; subst h; exact ns_step _
   rw [if_neg hn] at h
   cases he : func f s m t with
   | none => rw [he] at h; simp at h
   | some a =>
     rw [he] at h
     have K1 := func_ns _ _ _ _ _ he
     exact K1.trans (ih _ _ _ _ h)
theorem modsLoop_ns (f : Nat) : ∀ (g : Nat) (s : Rd) (root : Nat) (s' : Rd), modsLoop f g s root = some s' → NS s s' := by
 intro g
 induction g with
 | zero => intro s r s' h; simp [modsLoop] at h
 | succ g ih =>
   intro s root s' h
   rw [modsLoop] at h
   by_cases hb : s.bad = true ∨ s.L.length ≤ s.at_
   ·
    rw [if_pos hb] at h; injection h with h; subst h; exact NS.refl _
   rw [if_neg hb] at h
   dsimp only at h
   have K1 := (ns_need s wModule).trans (ns_name _)
   have hT : ∀ x : Rd, x.L = s.L → NdOk x (ndNamed 2 ((s.need wModule).text 1)) := fun x hx => named_ok (hx.trans (grow_need s wModule).L.symm) (by decide)
   generalize (s.need wModule).text 1 = t at h hT
   generalize (s.need wModule).name = a at h K1
   have K2 : NS s (if inL a.mods t = true then a.fault 10 else a) := K1.trans (by split <;> first | exact ns_fault _ _ | exact NS.refl _)
   generalize (if inL a.mods t = true then a.fault 10 else a) = b at h K2
   generalize hc : ({ b with mods := b.mods ++ [t] } : Rd) = c at h
   have hcr : c.rows = b.rows := by rw [← hc]
   have K3 := K2.trans (ns_same (by rw [← hc] : c.L = b.L) hcr)
   have K4 := K3.trans (ns_node c root (ndNamed 2 t) (hT c K3.L))
   have K5 := ns_need (c.node root (ndNamed 2 t)) [123]
   cases he : funcsLoop f f ((c.node root (ndNamed 2 t)).need [123]) b.rows.length t with
   | none => rw [he] at h; simp at h
   | some d =>
     rw [he] at h
     have K6 := K4.trans (K5.trans (funcsLoop_ns _ _ _ _ _ _ he))
     exact K6.trans (ih _ _ _ h)
theorem link_ns : ∀ (is : List Nat) (ws : List Str) (s : Rd), NS s (link is ws s) := by
 intro is
 induction is with
 | nil => intro ws s; cases ws <;> exact NS.refl _
 | cons i is ih =>
   intro ws s
   cases ws with
   | nil => exact NS.refl _
   | cons t ws =>
     rw [link]
     refine NS.trans ?_ (ih ws _)
     refine NS.trans ?_ (ns_setRef _ _ _)
     split <;> first | exact ns_fault _ _ | exact NS.refl _
theorem program_nb (f : Nat) (l : List Tok) (s' : Rd) (h : program f (begin_ l) = some s') (M : Nat) (hM : ∀ t ∈ l, t.text.length ≤ M) : ∀ r ∈ s'.rows, Nk M r.node := by
 unfold program at h
 dsimp only at h
 cases e : modsLoop f f ((begin_ l).node 0 (nd 1)) (begin_ l).rows.length with
 | none => rw [e] at h; simp at h
 | some a =>
   rw [e] at h
   injection h with h
   subst h
   have K := (ns_node (begin_ l) 0 (nd 1) (nd_ok (by decide))).trans ((modsLoop_ns _ _ _ _ _ e).trans (link_ns a.calls a.wants a))
   exact K.nb (fun M hM r hr => by have h0 : (begin_ l).rows = [] := rfl; rw [h0] at hr; simp at hr) M (by rw [K.L]; exact hM)
end Rd
theorem le_kidsSum : ∀ {l : List Row} {r : Row}, r ∈ l → r.node.kids.length ≤ kidsSum l
 | [], r, h => by simp at h
 | x :: l, r, h => by
   rw [kidsSum_cons]
   rcases List.mem_cons.1 h with h | h
   ·
    subst h; omega
   ·
    have := le_kidsSum h; omega
theorem Tr.sum {l : List Row} (h : Tr l) : kidsSum l = l.length - 1 := by
 have := h.perm.length_eq
 rw [List.length_flatMap] at this
 simpa [kidsSum] using this
theorem Tr.kids {l : List Row} (h : Tr l) (r : Row) (hr : r ∈ l) : r.node.kids.length ≤ l.length := by
 have h1 := h.sum
 have h2 : r.node.kids.length ≤ kidsSum l := by
  exact le_kidsSum hr
 omega
theorem Tr.kid0 {l : List Row} (h : Tr l) (x : Nat) : ∀ k ∈ (nodeOf l x).kids, k ≠ 0 := by
 intro k hk
 cases hi : atI l x with
 | none => rw [nodeOf_none l x hi] at hk; simp [Node.zero] at hk
 | some i =>
   rw [nodeOf_at l x i hi] at hk
   have hl : i < l.length := by
    unfold atI at hi
    exact (List.findIdx?_eq_some_iff_getElem.1 hi).1
   have e : rowAt l i = l[i] := by simp [rowAt, hl]
   rw [e] at hk
   have := h.up i l[i] (List.getElem?_eq_getElem hl) k hk
   omega
theorem parse_nb (s : Str) : ∀ r ∈ (parseOf s).1, Nk s.length r.node := by
 cases h : r8all s with
 | none => rw [parse_none h]; intro r hr; simp at hr
 | some l =>
   obtain ⟨r, hp, _, _, ht, e⟩ := parse_some h
   obtain ⟨_, h2⟩ := r8all_len h
   rw [e]
   split
   ·
    intro r hr; simp at hr
   ·
    split
    ·
     intro r hr; simp at hr
    ·
     split
     ·
      intro r hr; simp at hr
     ·
      exact Rd.program_nb _ _ _ hp _ h2
end Hg
namespace Hg
def sc1 (l : List Row) (r : Row) : Bool := decide (r.node.kind < 1 ∨ 20 < r.node.kind ∨ decide (r.node.kind = 1) ≠ decide (r.id = 1) ∨ fits r.node.kind (classes l r.node.kids) (decide (kindOf l (parentOf l r.id).1 = 3)) = false)
def sc2 (r : Row) : Bool := decide (isNamed r.node.kind ≠ (r.node.name != []) ∨ isNamed r.node.kind = true ∧ (r8name r.node.name = false ∨ inL words r.node.name = true))
def typedK (k : Nat) : Bool := isNamed k && decide (k ≠ 2)
def sc3 (r : Row) : Bool := decide (typedK r.node.kind ≠ (decide (r.node.type = 1) || decide (r.node.type = 2)) ∨ typedK r.node.kind = false ∧ r.node.type ≠ 0)
def sc4 (l : List Row) (r : Row) : Bool :=
 if r.node.kind = 7 ∨ r.node.kind = 15 then decide (kindOf l r.node.ref ≠ 4 ∧ kindOf l r.node.ref ≠ 6)
 else if r.node.kind = 19 then decide (kindOf l r.node.ref ≠ 3) else decide (r.node.ref ≠ 0)
def lowOf (k : Nat) : Int := if k = 18 then 1 else 0
def highOf (k : Nat) : Int := if k = 13 then 9223372036854775807 else if k = 14 then 1 else if k = 18 then 13 else 0
def sc5 (r : Row) : Bool := decide (r.node.num < lowOf r.node.kind ∨ highOf r.node.kind < r.node.num)
theorem lowhigh (k : Nat) : (k = 13 → lowOf k = 0 ∧ highOf k = 9223372036854775807) ∧ (k = 14 → lowOf k = 0 ∧ highOf k = 1) ∧ (k = 18 → lowOf k = 1 ∧ highOf k = 13) ∧ (k ≠ 13 ∧ k ≠ 14 ∧ k ≠ 18 → lowOf k = 0 ∧ highOf k = 0) := by
 unfold lowOf highOf
 refine ⟨fun h => ?_, fun h => ?_, fun h => ?_, fun h => ?_⟩
 ·
  subst h; exact ⟨rfl, rfl⟩
 ·
  subst h; exact ⟨rfl, rfl⟩
 ·
  subst h; exact ⟨rfl, rfl⟩
 ·
  rw [if_neg h.2.2, if_neg h.1, if_neg h.2.1, if_neg h.2.2]; exact ⟨rfl, rfl⟩
theorem shapedRow_eq (l : List Row) (r : Row) (hn : r.node.num ≤ 9223372036854775807) : shapedRow l r = (!sc1 l r && !sc2 r && !sc3 r && !sc4 l r && !sc5 r) := by
 unfold shapedRow
 dsimp only
 rw [show (isNamed r.node.kind && decide (r.node.kind ≠ 2)) = typedK r.node.kind from rfl]
 by_cases h1 : sc1 l r = true
 ·
  rw [if_pos (of_decide_eq_true h1)]; simp [h1]
 rw [if_neg (fun h => h1 (decide_eq_true h))]
 have e1 : sc1 l r = false := by simpa using h1
 by_cases h2 : sc2 r = true
 ·
  rw [if_pos (of_decide_eq_true h2)]; simp [h2]
 rw [if_neg (fun h => h2 (decide_eq_true h))]
 have e2 : sc2 r = false := by simpa using h2
 by_cases h3 : sc3 r = true
 ·
  rw [if_pos (of_decide_eq_true h3)]; simp [h3]
 rw [if_neg (fun h => h3 (decide_eq_true h))]
 have e3 : sc3 r = false := by simpa using h3
 rw [e1, e2, e3]
 simp only [Bool.not_false, Bool.true_and]
 obtain ⟨l13, l14, l18, lo⟩ := lowhigh r.node.kind
 unfold sc4 sc5
 by_cases k7 : r.node.kind = 7 ∨ r.node.kind = 15
 ·
  obtain ⟨a1, a2⟩ := lo (by omega)
  rw [if_pos k7, if_pos k7, a1, a2]
  by_cases hk : kindOf l r.node.ref ≠ 4 ∧ kindOf l r.node.ref ≠ 6
  ·
   rw [if_pos hk, decide_eq_true hk]; rfl
  ·
   rw [if_neg hk, decide_eq_false hk]
   rw [Bool.eq_iff_iff]; simp; omega
 rw [if_neg k7, if_neg k7]
 by_cases k19 : r.node.kind = 19
 ·
  obtain ⟨a1, a2⟩ := lo (by omega)
  rw [if_pos k19, if_pos k19, a1, a2]
  by_cases hk : kindOf l r.node.ref ≠ 3
  ·
   rw [if_pos hk, decide_eq_true hk]; rfl
  ·
   rw [if_neg hk, decide_eq_false hk]
   rw [Bool.eq_iff_iff]; simp; omega
 rw [if_neg k19, if_neg k19]
 by_cases hr : r.node.ref ≠ 0
 ·
  rw [if_pos hr, decide_eq_true hr]; rfl
 rw [if_neg hr, decide_eq_false hr]
 by_cases k13 : r.node.kind = 13
 ·
  obtain ⟨a1, a2⟩ := l13 k13
  rw [if_pos k13, a1, a2]
  rw [Bool.eq_iff_iff]; simp; omega
 rw [if_neg k13]
 by_cases k14 : r.node.kind = 14
 ·
  obtain ⟨a1, a2⟩ := l14 k14
  rw [if_pos k14, a1, a2]
  rw [Bool.eq_iff_iff]; simp
 rw [if_neg k14]
 by_cases k18 : r.node.kind = 18
 ·
  obtain ⟨a1, a2⟩ := l18 k18
  rw [if_pos k18, a1, a2]
  rw [Bool.eq_iff_iff]; simp <;> omega
 rw [if_neg k18]
 obtain ⟨a1, a2⟩ := lo ⟨k13, k14, k18⟩
 rw [a1, a2]
 rw [Bool.eq_iff_iff]; simp; omega
end Hg
