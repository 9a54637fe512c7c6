/-
  Part of a proof: contracts of functions that the claim reaches, and plain lemmas.
-/
import Derived.Test.YtihmbbkppkgcmaaGreatDoorKcAB
import Derived.Test.YtihmbbkppkgcmaaGreatDoorKcAA
set_option linter.all false
namespace Hg
def kRel (p c : Nat) : Prop := (p = 1 ∧ c = 2) ∨ (p = 2 ∧ c = 3) ∨ (3 ≤ p ∧ 4 ≤ c)
structure Tr (rows : List Row) : Prop where
 rid : ∀ (k : Nat) (r : Row), rows[k]? = some r → r.id = k + 1
 up : ∀ (k : Nat) (r : Row), rows[k]? = some r → ∀ c ∈ r.node.kids, k + 1 < c ∧ c ≤ rows.length
 perm : (rows.flatMap (fun r => r.node.kids)).Perm (List.range' 2 (rows.length - 1))
 kind : ∀ (k : Nat) (r : Row), rows[k]? = some r → ∀ c ∈ r.node.kids, ∀ r', rows[c - 1]? = some r' → kRel r.node.kind r'.node.kind
 root : ∀ r, rows[0]? = some r → r.node.kind = 1
namespace Rd
theorem flat_modify (id : Nat) : ∀ (l : List Row) (u : Nat), u < l.length → ((l.modify u fun x => { x with node := { x.node with kids := x.node.kids ++ [id] } }).flatMap (fun r => r.node.kids)).Perm (id :: l.flatMap (fun r => r.node.kids))
 | [], u, h => by simp at h
 | r :: l, 0, h => by
   simp only [List.modify_zero_cons, List.flatMap_cons]
   rw [List.append_assoc]
   exact (List.perm_middle)
 | r :: l, u + 1, h => by
   simp only [List.modify_succ_cons, List.flatMap_cons]
   have ih := flat_modify id l u (by simpa using h)
   exact (List.Perm.append_left _ ih).trans List.perm_middle
theorem tr_modify {rows : List Row} (h : Tr rows) (k : Nat) (f : Row → Row) (h1 : ∀ r, (f r).id = r.id) (h2 : ∀ r, (f r).node.kids = r.node.kids) (h3 : ∀ r, (f r).node.kind = r.node.kind) : Tr (rows.modify k f) := by
 have hin : ∀ {i : Nat} {r' : Row}, (rows.modify k f)[i]? = some r' → ∃ r, rows[i]? = some r ∧ r'.id = r.id ∧ r'.node.kids = r.node.kids ∧ r'.node.kind = r.node.kind := by
  intro i r' hr
  obtain ⟨r, h0, he⟩ := modify_inv hr
  refine ⟨r, h0, ?_⟩
  subst he
  split
  ·
   exact ⟨h1 r, h2 r, h3 r⟩
  ·
   exact ⟨rfl, rfl, rfl⟩
 have hfl : ∀ (l : List Row) (k : Nat), (l.modify k f).flatMap (fun r => r.node.kids) = l.flatMap (fun r => r.node.kids) := by
  intro l
  induction l with
  | nil => intro k; cases k <;> rfl
  | cons r l ih =>
    intro k
    cases k with
    | zero => simp [h2]
    | succ k => simp [ih]
 refine ⟨fun i r hr => ?_, fun i r hr c hc => ?_, ?_, fun i r hr c hc r' hr' => ?_, fun r hr => ?_⟩
 ·
  obtain ⟨r0, a, b, _, _⟩ := hin hr; rw [b]; exact h.rid i r0 a
 ·
  obtain ⟨r0, a, _, b, _⟩ := hin hr; rw [b] at hc; simpa using h.up i r0 a c hc
 ·
  rw [hfl]; simpa using h.perm
 ·
  obtain ⟨r0, a, _, b, d⟩ := hin hr
  obtain ⟨r1, a1, _, _, d1⟩ := hin hr'
  rw [b] at hc; rw [d, d1]
  exact h.kind i r0 a c hc r1 a1
 ·
  obtain ⟨r0, a, _, _, d⟩ := hin hr; rw [d]; exact h.root r0 a
theorem tr_first (n : Node) (hn : n.kids = []) (hk : n.kind = 1) : Tr [⟨1, n⟩] := by
 have hin : ∀ {i : Nat} {r : Row}, ([⟨1, n⟩] : List Row)[i]? = some r → i = 0 ∧ r = ⟨1, n⟩ := by
  intro i r h
  cases i with
  | zero => simp at h; exact ⟨rfl, h.symm⟩
  | succ i => simp at h
 refine ⟨fun i r hr => ?_, fun i r hr c hc => ?_, by simp [hn], fun i r hr c hc => ?_, fun r hr => ?_⟩
 ·
  obtain ⟨rfl, rfl⟩ := hin hr; rfl
 ·
  obtain ⟨rfl, rfl⟩ := hin hr; rw [hn] at hc; simp at hc
 ·
  obtain ⟨rfl, rfl⟩ := hin hr; rw [hn] at hc; simp at hc
 ·
  obtain ⟨_, rfl⟩ := hin hr; exact hk
theorem tr_push {rows : List Row} (h : Tr rows) {u : Nat} {ru : Row} (hu : rows[u]? = some ru) (n : Node) (hn : n.kids = []) (hk : kRel ru.node.kind n.kind) : Tr (addKid (rows ++ [⟨rows.length + 1, n⟩]) u (rows.length + 1)) := by
 have hul : u < rows.length := (List.getElem?_eq_some_iff.1 hu).1
 have hin : ∀ {i : Nat} {r' : Row}, (addKid (rows ++ [⟨rows.length + 1, n⟩]) u (rows.length + 1))[i]? = some r' →
  (i = rows.length ∧ r' = ⟨rows.length + 1, n⟩) ∨ (∃ r, rows[i]? = some r ∧ r'.id = r.id ∧ r'.node.kind = r.node.kind ∧ r'.node.kids = if i = u then r.node.kids ++ [rows.length + 1] else r.node.kids) := by
  intro i r' hr
  obtain ⟨r, h0, he⟩ := modify_inv hr
  by_cases hi : i < rows.length
  ·
   rw [List.getElem?_append_left hi] at h0
   right
   refine ⟨r, h0, ?_⟩
   subst he
   by_cases hiu : u = i
   ·
    simp [hiu]
   ·
    simp [hiu, Ne.symm hiu]
  ·
   left
   rw [List.getElem?_append_right (by omega)] at h0
   by_cases e : i - rows.length = 0
   ·
    rw [e] at h0
    simp at h0
    rw [if_neg (by omega)] at he
    exact ⟨by omega, by rw [he, ← h0]⟩
   ·
    rw [List.getElem?_eq_none (by simp; omega)] at h0; cases h0
 have hlen : (addKid (rows ++ [⟨rows.length + 1, n⟩]) u (rows.length + 1)).length = rows.length + 1 := by simp [addKid]
 have hkind : ∀ {i : Nat} {r' : Row}, (addKid (rows ++ [⟨rows.length + 1, n⟩]) u (rows.length + 1))[i]? = some r' → i < rows.length → ∃ r, rows[i]? = some r ∧ r'.node.kind = r.node.kind := by
  intro i r' hr hi
  rcases hin hr with ⟨e, _⟩ | ⟨r, a, _, b, _⟩
  ·
   omega
  ·
   exact ⟨r, a, b⟩
 refine ⟨fun i r hr => ?_, fun i r hr c hc => ?_, ?_, fun i r hr c hc r' hr' => ?_, fun r hr => ?_⟩
 ·
  rcases hin hr with ⟨e, rfl⟩ | ⟨r0, a, b, _, _⟩
  ·
   show rows.length + 1 = i + 1; omega
  ·
   rw [b]; exact h.rid i r0 a
 ·
  rw [hlen]
  rcases hin hr with ⟨e, rfl⟩ | ⟨r0, a, _, _, b⟩
  ·
   rw [hn] at hc; simp at hc
  ·
   have hi := (List.getElem?_eq_some_iff.1 a).1
   rw [b] at hc
   by_cases e : i = u
   ·
    rw [if_pos e] at hc
    rcases List.mem_append.1 hc with hc | hc
    ·
     have := h.up i r0 a c hc; omega
    ·
     simp at hc; omega
   ·
    rw [if_neg e] at hc
    have := h.up i r0 a c hc; omega
 ·
  rw [hlen]
  refine (flat_modify (rows.length + 1) (rows ++ [⟨rows.length + 1, n⟩]) u (by simp; omega)).trans ?_
  have e1 : (rows ++ [(⟨rows.length + 1, n⟩ : Row)]).flatMap (fun r => r.node.kids) = rows.flatMap (fun r => r.node.kids) := by simp [hn]
  rw [e1, show rows.length + 1 - 1 = (rows.length - 1) + 1 by omega, List.range'_concat, show 2 + 1 * (rows.length - 1) = rows.length + 1 by omega]
  exact (List.Perm.cons _ h.perm).trans (List.perm_append_singleton _ _).symm
 ·
  rcases hin hr with ⟨e, rfl⟩ | ⟨r0, a, _, d, b⟩
  ·
   rw [hn] at hc; simp at hc
  ·
   have hi := (List.getElem?_eq_some_iff.1 a).1
   rw [d]
   rw [b] at hc
   have old : c ∈ r0.node.kids → kRel r0.node.kind r'.node.kind := by
    intro hc
    have := h.up i r0 a c hc
    obtain ⟨r1, a1, d1⟩ := hkind hr' (by omega)
    rw [d1]
    exact h.kind i r0 a c hc r1 a1
   by_cases e : i = u
   ·
    rw [if_pos e] at hc
    rcases List.mem_append.1 hc with hc | hc
    ·
     exact old hc
    ·
     simp at hc
     subst hc
     rcases hin hr' with ⟨_, rfl⟩ | ⟨r1, a1, _⟩
     ·
      subst e
      rw [hu] at a
      injection a with a
      rw [← a]; exact hk
     ·
      have := (List.getElem?_eq_some_iff.1 a1).1; omega
   ·
    rw [if_neg e] at hc
    exact old hc
 ·
  rcases hin hr with ⟨e, _⟩ | ⟨r0, a, _, d, _⟩
  ·
   omega
  ·
   rw [d]; exact h.root r0 a
structure KS (s s' : Rd) : Prop where
 kinds : ∀ (k : Nat) (r : Row), s.rows[k]? = some r → ∃ r', s'.rows[k]? = some r' ∧ r'.node.kind = r.node.kind
 tr : Tr s.rows → Tr s'.rows
theorem KS.refl (s : Rd) : KS s s := ⟨fun _ r h => ⟨r, h, rfl⟩, id⟩
theorem KS.trans {a b c : Rd} (h : KS a b) (k : KS b c) : KS a c :=
 ⟨fun i r hr => by
  obtain ⟨r1, h1, h2⟩ := h.kinds i r hr
  obtain ⟨r2, k1, k2⟩ := k.kinds i r1 h1
  exact ⟨r2, k1, k2.trans h2⟩, fun x => k.tr (h.tr x)⟩
theorem ks_same {s s' : Rd} (h : s'.rows = s.rows) : KS s s' := ⟨fun k r hr => ⟨r, by rw [h]; exact hr, rfl⟩, fun x => by rw [h]; exact x⟩
theorem ks_modify (s : Rd) (k : Nat) (f : Row → Row) (h1 : ∀ r, (f r).id = r.id) (h2 : ∀ r, (f r).node.kids = r.node.kids) (h3 : ∀ r, (f r).node.kind = r.node.kind) : KS s { s with rows := s.rows.modify k f } :=
 ⟨fun i r hr => ⟨_, modify_get hr, by split <;> first | exact h3 r | rfl⟩, fun x => tr_modify x k f h1 h2 h3⟩
def At (s : Rd) (u : Nat) (p : Nat → Prop) : Prop := ∃ r, s.rows[u]? = some r ∧ p r.node.kind
theorem At.keep {s s' : Rd} {u : Nat} {p : Nat → Prop} (h : At s u p) (k : KS s s') : At s' u p := by
 obtain ⟨r, h1, h2⟩ := h
 obtain ⟨r', k1, k2⟩ := k.kinds u r h1
 exact ⟨r', k1, by rw [k2]; exact h2⟩
theorem At.imp {s : Rd} {u : Nat} {p q : Nat → Prop} (h : At s u p) (k : ∀ n, p n → q n) : At s u q := by
 obtain ⟨r, h1, h2⟩ := h
 exact ⟨r, h1, k _ h2⟩
theorem ks_node (s : Rd) (u : Nat) (n : Node) (hn : n.kids = []) (hu : At s u (fun p => kRel p n.kind)) : KS s (s.node u n) := by
 obtain ⟨r, h1, h2⟩ := hu
 have hul := (List.getElem?_eq_some_iff.1 h1).1
 have e : (s.node u n).rows = addKid (s.rows ++ [⟨s.rows.length + 1, n⟩]) u (s.rows.length + 1) := by
  unfold node; dsimp only; rw [if_pos (by omega)]
 refine ⟨fun k r' hr => ?_, fun x => by rw [e]; exact tr_push x h1 n hn h2⟩
 rw [e]
 refine ⟨_, modify_get (by rw [List.getElem?_append_left (List.getElem?_eq_some_iff.1 hr).1]; exact hr), ?_⟩
 split <;> rfl
theorem at_node (s : Rd) (u : Nat) (n : Node) (hu : u ≠ s.rows.length) : At (s.node u n) s.rows.length (fun k => k = n.kind) := by
 unfold At node
 dsimp only
 split
 ·
  refine ⟨_, modify_get (r := ⟨s.rows.length + 1, n⟩) (by simp), ?_⟩
  split <;> rfl
 ·
  exact ⟨⟨s.rows.length + 1, n⟩, by simp, rfl⟩
theorem At.ne {s : Rd} {u : Nat} {p : Nat → Prop} (h : At s u p) : u ≠ s.rows.length := by
 obtain ⟨r, h1, _⟩ := h
 have := (List.getElem?_eq_some_iff.1 h1).1
 omega
theorem ks_step (s : Rd) : KS s s.step := ks_same rfl
theorem ks_setBad (s : Rd) : KS s s.setBad := ks_same rfl
theorem ks_need (s : Rd) (t : Str) : KS s (s.need t) := ks_same (calls_need s t).2.2
theorem ks_name (s : Rd) : KS s s.name := ks_same (calls_name s).2.2
theorem ks_typed (s : Rd) : KS s s.typed.2 := by unfold typed; split <;> first | exact ks_step s | exact ks_need s _
theorem ks_fault (s : Rd) (e : Nat) : KS s (s.fault e) := ks_same (fault_same s e).1
theorem ks_find (s : Rd) (t : Str) : KS s (s.find t).2 := by unfold find; split <;> first | exact KS.refl s | exact ks_fault s _
theorem ks_setRef (s : Rd) (k t : Nat) : KS s (s.setRef k t) := ks_modify s k _ (fun _ => rfl) (fun _ => rfl) (fun _ => rfl)
theorem ks_setType (s : Rd) (k t : Nat) : KS s (s.setType k t) := ks_modify s k _ (fun _ => rfl) (fun _ => rfl) (fun _ => rfl)
theorem ks_setNum (s : Rd) (k : Nat) (t : Int) : KS s (s.setNum k t) := ks_modify s k _ (fun _ => rfl) (fun _ => rfl) (fun _ => rfl)
theorem ks_declare (s : Rd) (t : Str) (k : Nat) : KS s (s.declare t k) := ks_same (declare_same s t k).2.2.2.2.2
theorem ks_enter (s : Rd) : KS s s.enter := by unfold enter; dsimp only; split <;> exact ks_same rfl
theorem ks_leave (s : Rd) : KS s s.leave := ks_same rfl
theorem ks_shut (s : Rd) : KS s s.shut := ks_same rfl
theorem ge3 {s : Rd} {u c : Nat} (hc : 4 ≤ c) (h : At s u (fun p => 3 ≤ p)) : At s u (fun p => kRel p c) := h.imp fun _ hp => .inr (.inr ⟨hp, hc⟩)
theorem new3 {s : Rd} {u c : Nat} {n : Node} (h : At s u (fun p => 3 ≤ p)) (hc : c = n.kind) (h4 : 4 ≤ c) : At (s.node u n) s.rows.length (fun p => 3 ≤ p) :=
 (at_node s u n h.ne).imp fun k hk => by omega
theorem expr_ks (f : Nat) : (∀ s u s', expr f s u = some s' → At s u (fun p => 3 ≤ p) → KS s s') ∧ (∀ s u m s', call f s u m = some s' → At s u (fun p => 3 ≤ p) → KS s s') ∧ (∀ b s n s', args f b s n = some s' → At s n (fun p => 3 ≤ p) → KS s s') := by
 induction f with
 | zero => exact ⟨fun _ _ _ h => by simp [expr] at h, fun _ _ _ _ h => by simp [call] at h, fun _ _ _ _ h => by simp [args] at h⟩
 | succ f ih =>
   obtain ⟨ihe, ihc, iha⟩ := ih
   refine ⟨fun s u s' h hu => ?_, fun s u m s' h hu => ?_, fun b s n s' h hu => ?_⟩
   ·
    rw [expr] at h
    have hus := hu.keep (ks_step s)
    have nodeK : ∀ n : Node, n.kids = [] → 4 ≤ n.kind → KS s (s.step.node u n) := fun n hn h4 => (ks_step s).trans (ks_node s.step u n hn (ge3 h4 hus))
    by_cases h2 : s.text 2 ≠ []
    ·
     rw [if_pos h2] at h
     injection h with h; subst h
     exact nodeK _ rfl (Nat.le_of_ble_eq_true rfl)
    rw [if_neg h2] at h
    by_cases h1 : s.text 1 ≠ []
    ·
     rw [if_pos h1] at h
     dsimp only at h
     by_cases hd : s.step.next [46] = true
     ·
      rw [if_pos hd] at h
      exact (ks_step s).trans (ihc _ _ _ _ h hus)
     ·
      rw [if_neg hd] at h
      injection h with h; subst h
      exact ((nodeK (nd 15) rfl (by decide)).trans (ks_find _ _)).trans (ks_setRef _ _ _)
    rw [if_neg h1] at h
    by_cases ht : s.next wTrue = true
    ·
     rw [if_pos ht] at h
     injection h with h; subst h
     exact nodeK _ rfl (by decide)
    rw [if_neg ht] at h
    by_cases hf : s.next wFalse = true
    ·
     rw [if_pos hf] at h
     injection h with h; subst h
     exact nodeK _ rfl (by decide)
    rw [if_neg hf] at h
    by_cases hr : s.next wRead = true
    ·
     rw [if_pos hr] at h
     injection h with h; subst h
     exact nodeK _ rfl (by decide)
    rw [if_neg hr] at h
    by_cases hn : s.next [33] = true ∨ s.next [45] = true
    ·
     rw [if_pos hn] at h
     dsimp only at h
     have hkind : (if s.next [33] = true then 16 else 17) = 16 ∨ (if s.next [33] = true then 16 else 17) = 17 := by split <;> simp
     generalize hk : (if s.next [33] = true then 16 else 17) = kind at h hkind
     have K1 := nodeK (nd kind) rfl (by show 4 ≤ kind; omega)
     have hnew : At (s.step.node u (nd kind)) s.step.rows.length (fun p => 3 ≤ p) := new3 (c := kind) hus rfl (by omega)
     by_cases hb : (s.step.node u (nd kind)).enter.bad = true
     ·
      rw [if_pos hb] at h
      injection h with h; subst h
      exact K1.trans ((ks_enter _).trans (ks_leave _))
     ·
      rw [if_neg hb] at h
      cases he : expr f (s.step.node u (nd kind)).enter s.rows.length with
      | none => rw [he] at h; simp at h
      | some s1 =>
        rw [he] at h
        injection h with h; subst h
        exact K1.trans ((ks_enter _).trans ((ihe _ _ _ he (hnew.keep (ks_enter _))).trans (ks_leave _)))
    rw [if_neg hn] at h
    by_cases hp : s.next [40] = true
    ·
     rw [if_pos hp] at h
     dsimp only at h
     have K1 := nodeK (nd 18) rfl (by decide)
     have hnew : At (s.step.node u (nd 18)) s.step.rows.length (fun p => 3 ≤ p) := new3 (c := 18) hus rfl (by omega)
     by_cases hb : (s.step.node u (nd 18)).enter.bad = true
     ·
      rw [if_pos hb] at h
      injection h with h; subst h
      exact K1.trans ((ks_enter _).trans (ks_leave _))
     ·
      rw [if_neg hb] at h
      cases he : expr f (s.step.node u (nd 18)).enter s.rows.length with
      | none => rw [he] at h; simp at h
      | some s1 =>
        rw [he] at h
        dsimp only at h
        have E1 := ihe _ _ _ he (hnew.keep (ks_enter _))
        have e1 : KS s1 ((if opOf (s1.text 4) = 0 then (s1.setNum s.rows.length (opOf (s1.text 4) : Nat)).setBad else s1.setNum s.rows.length (opOf (s1.text 4) : Nat)).step) := by
         refine KS.trans ?_ (ks_step _)
         split
         ·
          exact (ks_setNum _ _ _).trans (ks_setBad _)
         ·
          exact ks_setNum _ _ _
        cases he2 : expr f ((if opOf (s1.text 4) = 0 then (s1.setNum s.rows.length (opOf (s1.text 4) : Nat)).setBad else s1.setNum s.rows.length (opOf (s1.text 4) : Nat)).step) s.rows.length with
        | none => rw [he2] at h; simp at h
        | some s2 =>
          rw [he2] at h
          injection h with h; subst h
          have E2 := ihe _ _ _ he2 ((hnew.keep (ks_enter _)).keep (E1.trans e1))
          exact K1.trans ((ks_enter _).trans ((E1.trans e1).trans ((E2.trans (ks_need _ _)).trans (ks_leave _))))
    rw [if_neg hp] at h
    injection h with h; subst h
    exact ks_setBad s
   ·
    rw [call] at h
    try dsimp only at h
    have K1 := ks_node s u (nd 19) rfl (ge3 (by decide) hu)
    have hnew : At (s.node u (nd 19)) s.rows.length (fun p => 3 ≤ p) := new3 (c := 19) hu rfl (by omega)
    have K2 := ((ks_need (s.node u (nd 19)) [46]).trans (ks_name _))
    generalize hbd : ({ ((s.node u (nd 19)).need [46]).name with calls := ((s.node u (nd 19)).need [46]).name.calls ++ [((s.node u (nd 19)).need [46]).name.idAt s.rows.length], wants := ((s.node u (nd 19)).need [46]).name.wants ++ [m ++ [32] ++ ((s.node u (nd 19)).need [46]).text 1] } : Rd) = b at h
    have K3 : KS ((s.node u (nd 19)).need [46]).name b := by rw [← hbd]; exact ks_same rfl
    by_cases hb : b.enter.bad = true
    ·
     rw [if_pos hb] at h
     injection h with h; subst h
     exact K1.trans ((K2.trans K3).trans ((ks_enter _).trans (ks_leave _)))
    ·
     rw [if_neg hb] at h
     cases he : args f true (b.enter.need [40]) s.rows.length with
     | none => rw [he] at h; simp at h
     | some s1 =>
       rw [he] at h
       injection h with h; subst h
       have K4 := (K2.trans K3).trans ((ks_enter b).trans (ks_need _ [40]))
       exact K1.trans (K4.trans ((iha _ _ _ _ he (hnew.keep K4)).trans (ks_leave _)))
   ·
    rw [args] at h
    by_cases hb : s.bad = true
    ·
     rw [if_pos hb] at h
     injection h with h; subst h
     exact KS.refl _
    rw [if_neg hb] at h
    by_cases hn : s.next [41] = true
    ·
     rw [if_pos hn] at h
     injection h with h; subst h
     exact ks_step _
    rw [if_neg hn] at h
    have K1 : KS s (if b = true then s else s.need [44]) := by split <;> first | exact KS.refl _ | exact ks_need _ _
    cases he : expr f (if b = true then s else s.need [44]) n with
    | none => rw [he] at h; simp at h
    | some s1 =>
      rw [he] at h
      have K2 := K1.trans (ihe _ _ _ he (hu.keep K1))
      exact K2.trans (iha _ _ _ _ h (hu.keep K2))
theorem stmt_ks (f : Nat) : (∀ s u s', stmt f s u = some s' → At s u (fun p => 3 ≤ p) → KS s s') ∧ (∀ s u s', block f s u = some s' → At s u (fun p => 3 ≤ p) → KS s s') ∧ (∀ s n s', stmts f s n = some s' → At s n (fun p => 3 ≤ p) → KS s s') := by
 induction f with
 | zero => exact ⟨fun _ _ _ h => by simp [stmt] at h, fun _ _ _ h => by simp [block] at h, fun _ _ _ h => by simp [stmts] at h⟩
 | succ f ih =>
   obtain ⟨ihs, ihb, ihl⟩ := ih
   have E := expr_ks f
   refine ⟨fun s u s' h hu => ?_, fun s u s' h hu => ?_, fun s n s' h hu => ?_⟩
   ·
    rw [stmt] at h
    try dsimp only at h
    have hus := hu.keep (ks_step s)
    have nodeK : ∀ n : Node, n.kids = [] → 4 ≤ n.kind → KS s (s.step.node u n) ∧ At (s.step.node u n) s.rows.length (fun p => 3 ≤ p) := fun n hn h4 =>
     ⟨(ks_step s).trans (ks_node s.step u n hn (ge3 h4 hus)), new3 (s := s.step) (c := n.kind) hus rfl h4⟩
    by_cases h1 : s.next wLet = true
    ·
     rw [if_pos h1] at h
     have K0 := (ks_step s).trans (ks_name s.step)
     have hu1 := hu.keep K0
     have hl : s.step.name.rows.length = s.rows.length := by rw [(calls_name s.step).2.2]; rfl
     have K1 := K0.trans (ks_node s.step.name u (ndNamed 6 (s.step.text 1)) rfl (ge3 (Nat.le_of_ble_eq_true rfl) hu1))
     have hnew : At (s.step.name.node u (ndNamed 6 (s.step.text 1))) s.rows.length (fun p => 3 ≤ p) := by rw [← hl]; exact new3 (c := 6) hu1 rfl (by omega)
     have K2 := ((ks_typed (s.step.name.node u (ndNamed 6 (s.step.text 1)))).trans (ks_setType _ s.rows.length (s.step.name.node u (ndNamed 6 (s.step.text 1))).typed.1)).trans (ks_need _ [61])
     generalize ((s.step.name.node u (ndNamed 6 (s.step.text 1))).typed.2.setType s.rows.length (s.step.name.node u (ndNamed 6 (s.step.text 1))).typed.1).need [61] = a at h K2
     cases he : expr f a s.rows.length with
     | none => rw [he] at h; simp at h
     | some b =>
       rw [he] at h
       injection h with h
       subst h
       exact K1.trans (K2.trans ((E.1 _ _ _ he (hnew.keep K2)).trans ((ks_declare _ _ _).trans (ks_need _ _))))
    rw [if_neg h1] at h
    by_cases h2 : s.next wIf = true
    ·
     rw [if_pos h2] at h
     obtain ⟨K1, hnew⟩ := nodeK (nd 8) rfl (by decide)
     cases he : expr f (s.step.node u (nd 8)) s.rows.length with
     | none => rw [he] at h; simp at h
     | some a =>
       rw [he] at h
       dsimp only at h
       have K2 := E.1 _ _ _ he hnew
       cases hb : block f a s.rows.length with
       | none => rw [hb] at h; simp at h
       | some b =>
         rw [hb] at h
         have K3 := ihb _ _ _ hb (hnew.keep K2)
         have K4 := (K2.trans K3).trans (ks_need b wElse)
         exact K1.trans (K4.trans (ihb _ _ _ h (hnew.keep K4)))
    rw [if_neg h2] at h
    by_cases h3 : s.next wWhile = true
    ·
     rw [if_pos h3] at h
     obtain ⟨K1, hnew⟩ := nodeK (nd 9) rfl (by decide)
     cases he : expr f (s.step.node u (nd 9)) s.rows.length with
     | none => rw [he] at h; simp at h
     | some a =>
       rw [he] at h
       have K2 := E.1 _ _ _ he hnew
       exact K1.trans (K2.trans (ihb _ _ _ h (hnew.keep K2)))
    rw [if_neg h3] at h
    by_cases h4 : s.next wPrint = true
    ·
     rw [if_pos h4] at h
     obtain ⟨K1, hnew⟩ := nodeK (nd 11) rfl (by decide)
     cases he : expr f (s.step.node u (nd 11)) s.rows.length with
     | none => rw [he] at h; simp at h
     | some a =>
       rw [he] at h
       injection h with h
       subst h
       exact K1.trans ((E.1 _ _ _ he hnew).trans (ks_need _ _))
    rw [if_neg h4] at h
    by_cases h5 : s.next wDo = true
    ·
     rw [if_pos h5] at h
     obtain ⟨K1, hnew⟩ := nodeK (nd 12) rfl (by decide)
     generalize (s.step.node u (nd 12)) = a at h K1 hnew
     cases he : call f a.name s.rows.length (a.text 1) with
     | none => rw [he] at h; simp at h
     | some b =>
       rw [he] at h
       injection h with h
       subst h
       exact (K1.trans (ks_name a)).trans ((E.2.1 _ _ _ _ he (hnew.keep (ks_name a))).trans (ks_need _ _))
    rw [if_neg h5] at h
    have hu1 := hu.keep (ks_name s)
    have hl : s.name.rows.length = s.rows.length := by rw [(calls_name s).2.2]
    have K1 := (ks_name s).trans (ks_node s.name u (nd 7) rfl (ge3 (by decide) hu1))
    have hnew : At (s.name.node u (nd 7)) s.rows.length (fun p => 3 ≤ p) := by rw [← hl]; exact new3 (c := 7) hu1 rfl (by omega)
    generalize (s.name.node u (nd 7)) = a at h K1 hnew
    have K2 := ((ks_find a (s.text 1)).trans (ks_setRef _ s.rows.length (a.find (s.text 1)).1)).trans (ks_need _ [61])
    cases he : expr f (((a.find (s.text 1)).2.setRef s.rows.length (a.find (s.text 1)).1).need [61]) s.rows.length with
    | none => rw [he] at h; simp at h
    | some b =>
      rw [he] at h
      injection h with h
      subst h
      exact K1.trans (K2.trans ((E.1 _ _ _ he (hnew.keep K2)).trans (ks_need _ _)))
   ·
    rw [block] at h
    try dsimp only at h
    have K1 := ks_node s u (nd 5) rfl (ge3 (by decide) hu)
    have hnew : At (s.node u (nd 5)) s.rows.length (fun p => 3 ≤ p) := new3 (c := 5) hu rfl (by omega)
    generalize hbd : ({ (s.node u (nd 5)) with level := (s.node u (nd 5)).level + 1 } : Rd) = b at h
    have K2 : KS (s.node u (nd 5)) b := by rw [← hbd]; exact ks_same rfl
    by_cases hb : b.enter.bad = true
    ·
     rw [if_pos hb] at h
     injection h with h
     subst h
     exact (K1.trans K2).trans ((ks_enter _).trans ((ks_leave _).trans (ks_shut _)))
    ·
     rw [if_neg hb] at h
     cases he : stmts f (b.enter.need [123]) s.rows.length with
     | none => rw [he] at h; simp at h
     | some a =>
       rw [he] at h
       injection h with h
       subst h
       have K3 := K2.trans ((ks_enter b).trans (ks_need _ [123]))
       exact K1.trans (K3.trans ((ihl _ _ _ he (hnew.keep K3)).trans ((ks_leave _).trans (ks_shut _))))
   ·
    rw [stmts] at h
    by_cases hb : s.bad = true
    ·
     rw [if_pos hb] at h
     injection h with h
     subst h
     exact KS.refl _
    rw [if_neg hb] at h
    by_cases hn : s.next [125] = true
    ·
     rw [if_pos hn] at h
     injection h with h
     subst h
     exact ks_step _
    rw [if_neg hn] at h
    cases he : stmt f s n with
    | none => rw [he] at h; simp at h
    | some a =>
      rw [he] at h
      have K1 := ihs _ _ _ he hu
      exact K1.trans (ihl _ _ _ h (hu.keep K1))
theorem params_ks : ∀ (f : Nat) (b : Bool) (s : Rd) (k : Nat) (s' : Rd), params f b s k = some s' → At s k (fun p => 3 ≤ p) → KS s s' := by
 intro f
 induction f with
 | zero => intro b s k s' h; simp [params] at h
 | succ f ih =>
   intro b s k s' h hu
   rw [params] at h
   by_cases hb : s.bad = true
   ·
    rw [if_pos hb] at h; injection h with h; subst h; exact KS.refl _
   rw [if_neg hb] at h
   by_cases hn : s.next [41] = true
   ·
    rw [if_pos hn] at h; injection h with h; subst h; exact ks_step _
   rw [if_neg hn] at h
   dsimp only at h
   have K0 : KS s (if b = true then s else s.need [44]) := by split <;> first | exact KS.refl _ | exact ks_need _ _
   generalize (if b = true then s else s.need [44]) = r at h K0
   have K1 := K0.trans (ks_name r)
   have K2 := K1.trans (ks_node r.name k (ndNamed 4 (r.text 1)) rfl (ge3 (Nat.le_of_ble_eq_true rfl) (hu.keep K1)))
   have K3 := K2.trans ((ks_typed _).trans ((ks_setType _ r.rows.length (r.name.node k (ndNamed 4 (r.text 1))).typed.1).trans (ks_declare _ (r.text 1) r.rows.length)))
   exact K3.trans (ih _ _ _ _ h (hu.keep K3))
theorem body_ks : ∀ (f : Nat) (s : Rd) (n : Nat) (s' : Rd), body f s n = some s' → At s n (fun p => 3 ≤ p) → KS s s' := by
 intro f
 induction f with
 | zero => intro s n s' h; simp [body] at h
 | succ f ih =>
   intro s n s' h hu
   rw [body] at h
   by_cases hb : s.bad = true ∨ s.next wReturn = true
   ·
    rw [if_pos hb] at h; injection h with h; subst h; exact KS.refl _
   rw [if_neg hb] at h
   cases he : stmt f s n with
   | none => rw [he] at h; simp at h
   | some a =>
     rw [he] at h
     have K1 := (stmt_ks f).1 _ _ _ he hu
     exact K1.trans (ih _ _ _ h (hu.keep K1))
theorem func_ks (f : Nat) (s : Rd) (u : Nat) (m : Str) (s' : Rd) (h : func f s u m = some s') (hu : At s u (fun p => p = 2)) : KS s s' := by
 unfold func at h
 dsimp only at h
 have K1 := (ks_need s wFunc).trans (ks_name _)
 generalize (s.need wFunc).text 1 = t at h
 generalize (s.need wFunc).name = a at h K1
 have K2 : KS s (if inL a.funcs (m ++ [32] ++ t) = true then a.fault 10 else a) := K1.trans (by split <;> first | exact ks_fault _ _ | exact KS.refl _)
 generalize (if inL a.funcs (m ++ [32] ++ t) = true then a.fault 10 else a) = b at h K2
 change (match params f true (((b.node u (ndNamed 3 t)).openF (m ++ [32] ++ t) b.rows.length).need [40]) b.rows.length with
  | none => none
  | some r => _) = some s' at h
 have hub := hu.keep K2
 have K3 := K2.trans (ks_node b u (ndNamed 3 t) rfl (hub.imp fun _ hp => .inr (.inl ⟨hp, rfl⟩)))
 have hnew : At (b.node u (ndNamed 3 t)) b.rows.length (fun p => 3 ≤ p) := (at_node b u (ndNamed 3 t) hub.ne).imp fun k hk => by rw [hk]; exact Nat.le_refl 3
 have K4 : KS (b.node u (ndNamed 3 t)) ((b.node u (ndNamed 3 t)).openF (m ++ [32] ++ t) b.rows.length) := ks_same rfl
 have hnew4 := hnew.keep K4
 have K5 := K3.trans K4
 generalize (b.node u (ndNamed 3 t)).openF (m ++ [32] ++ t) b.rows.length = c at h K5 hnew4
 cases hp : params f true (c.need [40]) b.rows.length with
 | none => rw [hp] at h; simp at h
 | some p =>
   rw [hp] at h
   dsimp only at h
   have K6 := (ks_need c [40]).trans (params_ks _ _ _ _ _ hp (hnew4.keep (ks_need c [40])))
   have K7 := K6.trans ((ks_typed p).trans (ks_setType _ b.rows.length p.typed.1))
   have hn7 := hnew4.keep K7
   have K8 := K7.trans (ks_node _ b.rows.length (nd 5) rfl (ge3 (by decide) hn7))
   have hb8 : At ((p.typed.2.setType b.rows.length p.typed.1).node b.rows.length (nd 5)) (p.typed.2.setType b.rows.length p.typed.1).rows.length (fun p => 3 ≤ p) := new3 (c := 5) hn7 rfl (by omega)
   have K9 := K8.trans (ks_need _ [123])
   have hb9 := hb8.keep (ks_need _ [123])
   generalize ((p.typed.2.setType b.rows.length p.typed.1).node b.rows.length (nd 5)).need [123] = q at h K9 hb9
   cases hq : body f q (p.typed.2.setType b.rows.length p.typed.1).rows.length with
   | none => rw [hq] at h; simp at h
   | some v =>
     rw [hq] at h
     dsimp only at h
     have K10 := body_ks _ _ _ _ hq hb9
     have K11 := K10.trans (ks_need v wReturn)
     have hb11 := hb9.keep K11
     have K12 := K11.trans (ks_node _ _ (nd 10) rfl (ge3 (by decide) hb11))
     have hn12 : At ((v.need wReturn).node (p.typed.2.setType b.rows.length p.typed.1).rows.length (nd 10)) (v.need wReturn).rows.length (fun p => 3 ≤ p) := new3 (c := 10) hb11 rfl (by omega)
     cases hx : expr f ((v.need wReturn).node (p.typed.2.setType b.rows.length p.typed.1).rows.length (nd 10)) (v.need wReturn).rows.length with
     | none => rw [hx] at h; simp at h
     | some x =>
       rw [hx] at h
       injection h with h
       subst h
       exact K5.trans (K9.trans (K12.trans (((expr_ks f).1 _ _ _ hx hn12).trans ((ks_need _ _).trans (ks_need _ _)))))
theorem funcsLoop_ks (f : Nat) : ∀ (g : Nat) (s : Rd) (m : Nat) (t : Str) (s' : Rd), funcsLoop f g s m t = some s' → At s m (fun p => p = 2) → KS s s' := by
 intro g
 induction g with
 | zero => intro s m t s' h; simp [funcsLoop] at h
 | succ g ih =>
   intro s m t s' h hu
   rw [funcsLoop] at h
   by_cases hb : s.bad = true
   ·
    rw [if_pos hb] at h; injection h with h; subst h; exact KS.refl _
   rw [if_neg hb] at h
   by_cases hn : s.next [125] = true
   ·
    rw [if_pos hn] at h; injection h with h; subst h; exact ks_step _
   rw [if_neg hn] at h
   cases he : func f s m t with
   | none => rw [he] at h; simp at h
   | some a =>
     rw [he] at h
     have K1 := func_ks _ _ _ _ _ he hu
     exact K1.trans (ih _ _ _ _ h (hu.keep K1))
theorem modsLoop_ks (f : Nat) : ∀ (g : Nat) (s : Rd) (root : Nat) (s' : Rd), modsLoop f g s root = some s' → At s root (fun p => p = 1) → KS s s' := by
 intro g
 induction g with
 | zero => intro s r s' h; simp [modsLoop] at h
 | succ g ih =>
   intro s root s' h hu
   rw [modsLoop] at h
   by_cases hb : s.bad = true ∨ s.L.length ≤ s.at_
   ·
    rw [if_pos hb] at h; injection h with h; subst h; exact KS.refl _
   rw [if_neg hb] at h
   dsimp only at h
   have K1 := (ks_need s wModule).trans (ks_name _)
   generalize (s.need wModule).text 1 = t at h
   generalize (s.need wModule).name = a at h K1
   have K2 : KS s (if inL a.mods t = true then a.fault 10 else a) := K1.trans (by split <;> first | exact ks_fault _ _ | exact KS.refl _)
   generalize (if inL a.mods t = true then a.fault 10 else a) = b at h K2
   have hl : b.rows.length = b.rows.length := rfl
   generalize hc : ({ b with mods := b.mods ++ [t] } : Rd) = c at h
   have hcr : c.rows = b.rows := by rw [← hc]
   have K3 := K2.trans (ks_same hcr)
   have huc := hu.keep K3
   have K4 := K3.trans (ks_node c root (ndNamed 2 t) rfl (huc.imp fun _ hp => .inl ⟨hp, rfl⟩))
   have hnew : At (c.node root (ndNamed 2 t)) b.rows.length (fun p => p = 2) := by rw [← hcr]; exact at_node c root (ndNamed 2 t) huc.ne
   have K5 := ks_need (c.node root (ndNamed 2 t)) [123]
   cases he : funcsLoop f f ((c.node root (ndNamed 2 t)).need [123]) b.rows.length t with
   | none => rw [he] at h; simp at h
   | some d =>
     rw [he] at h
     have K6 := K4.trans (K5.trans (funcsLoop_ks _ _ _ _ _ _ he (hnew.keep K5)))
     exact K6.trans (ih _ _ _ h (hu.keep K6))
theorem link_ks : ∀ (is : List Nat) (ws : List Str) (s : Rd), KS s (link is ws s) := by
 intro is
 induction is with
 | nil => intro ws s; cases ws <;> exact KS.refl _
 | cons i is ih =>
   intro ws s
   cases ws with
   | nil => exact KS.refl _
   | cons t ws =>
     rw [link]
     refine KS.trans ?_ (ih ws _)
     refine KS.trans ?_ (ks_setRef _ _ _)
     split <;> first | exact ks_fault _ _ | exact KS.refl _
theorem program_tr (f : Nat) (l : List Tok) (s' : Rd) (h : program f (begin_ l) = some s') : Tr s'.rows := by
 unfold program at h
 dsimp only at h
 have hr : ((begin_ l).node 0 (nd 1)).rows = [⟨1, nd 1⟩] := rfl
 have hat : At ((begin_ l).node 0 (nd 1)) (begin_ l).rows.length (fun p => p = 1) := ⟨⟨1, nd 1⟩, by rw [hr]; rfl, rfl⟩
 cases e : modsLoop f f ((begin_ l).node 0 (nd 1)) (begin_ l).rows.length with
 | none => rw [e] at h; simp at h
 | some a =>
   rw [e] at h
   injection h with h
   subst h
   have K := modsLoop_ks _ _ _ _ _ e hat
   exact (link_ks _ _ _).tr (K.tr (by rw [hr]; exact tr_first _ rfl rfl))
end Rd
end Hg
namespace Hg
theorem tw_pos {s : Str} {c : UInt8} {r : Str} (hs : s = c :: r) (p : UInt8 → Bool) (h : p c = true) : 1 ≤ (s.takeWhile p).length := by
 subst hs; rw [List.takeWhile_cons, if_pos h]; simp
theorem tw_le (s : Str) (p : UInt8 → Bool) : (s.takeWhile p).length ≤ s.length := (List.takeWhile_sublist p).length_le
theorem r8scan_len (M : Nat) : ∀ (f i : Nat) (s : Str) (acc l : List Tok), r8scan f i s acc = some l → s.length ≤ M → (∀ t ∈ acc, t.text.length ≤ M) → l.length ≤ acc.length + s.length ∧ ∀ t ∈ l, t.text.length ≤ M
 | 0, i, s, acc, l, h, hM, ha => by
   rw [r8scan] at h; injection h with h; subst h; exact ⟨by omega, ha⟩
 | f + 1, i, [], acc, l, h, hM, ha => by
   rw [r8scan] at h; injection h with h; subst h; exact ⟨by omega, ha⟩
 | f + 1, i, c :: r, acc, l, h, hM, ha => by
   rw [r8scan] at h
   simp only [List.length_cons] at hM
   by_cases h3 : cls c = 3
   ·
    rw [if_pos h3] at h
    obtain ⟨h1, h2⟩ := r8scan_len M f _ r acc l h (by omega) ha
    exact ⟨by simp; omega, h2⟩
   rw [if_neg h3] at h
   by_cases h35 : c.toNat = 35
   ·
    rw [if_pos h35] at h
    dsimp only at h
    obtain ⟨h1, h2⟩ := r8scan_len M f _ _ acc l h (by simp; omega) ha
    exact ⟨by simp only [List.length_drop] at h1; simp only [List.length_cons] at *; omega, h2⟩
   rw [if_neg h35] at h
   have hadd : ∀ (w : Str) (k : Nat) (tk : Tok), 1 ≤ w.length → w.length ≤ r.length + 1 → tk.text = w → r8scan f k ((c :: r).drop w.length) (acc ++ [tk]) = some l → l.length ≤ acc.length + (c :: r).length ∧ ∀ t ∈ l, t.text.length ≤ M := by
    intro w k tk hw1 hw2 ht h
    obtain ⟨h1, h2⟩ := r8scan_len M f _ _ _ l h (by simp; omega) (fun t ht' => by
     rcases List.mem_append.1 ht' with h' | h'
     ·
      exact ha t h'
     ·
      simp at h'; subst h'; rw [ht]; omega)
    refine ⟨?_, h2⟩
    simp only [List.length_append, List.length_drop, List.length_cons, List.length_nil] at h1 ⊢
    omega
   by_cases h0 : 0 < cls c
   ·
    rw [if_pos h0] at h
    dsimp only at h
    have hp : isPart c = true := by
     have h4 : cls c ≤ 3 := by
      unfold cls; repeat' split
      all_goals omega
     unfold isPart
     have : cls c = 1 ∨ cls c = 2 := by omega
     rcases this with e | e <;> simp [e]
    have hw1 := tw_pos rfl isPart hp (r := r)
    have hw2 := tw_le (c :: r) isPart
    simp only [List.length_cons] at hw2
    generalize List.takeWhile isPart (c :: r) = w at h hw1 hw2
    by_cases a1 : inL words w = true
    ·
     rw [if_pos a1] at h; exact hadd w _ _ hw1 hw2 rfl h
    rw [if_neg a1] at h
    by_cases a2 : r8name w = true
    ·
     rw [if_pos a2] at h; exact hadd w _ _ hw1 hw2 rfl h
    rw [if_neg a2] at h
    by_cases a3 : 0 ≤ r8number w
    ·
     rw [if_pos a3] at h; exact hadd w _ _ hw1 hw2 rfl h
    rw [if_neg a3] at h
    cases h
   ·
    rw [if_neg h0] at h
    dsimp only at h
    have hw : ∀ w, w = (if inL signs ((c :: r).take 2) = true ∧ 2 ≤ (c :: r).length then (c :: r).take 2 else (c :: r).take 1) → 1 ≤ w.length ∧ w.length ≤ r.length + 1 := by
     intro w hw
     subst hw
     split
     ·
      simp; omega
     ·
      simp
    generalize (if inL signs ((c :: r).take 2) = true ∧ 2 ≤ (c :: r).length then (c :: r).take 2 else (c :: r).take 1) = w at h hw
    obtain ⟨hw1, hw2⟩ := hw _ rfl
    by_cases a1 : inL signs w = true
    ·
     rw [if_pos a1] at h; exact hadd w _ _ hw1 hw2 rfl h
    ·
     rw [if_neg a1] at h; cases h
theorem r8all_len {s : Str} {l : List Tok} (h : r8all s = some l) : l.length ≤ s.length ∧ ∀ t ∈ l, t.text.length ≤ s.length := by
 have := r8scan_len s.length s.length 0 s [] l h (Nat.le_refl _) (fun t ht => by simp at ht)
 simpa using this
def parseOf (s : Str) : List Row × Nat := (r9parse (3 * s.length + 10) s).getD ([], 0)
theorem parse_none {s : Str} (h : r8all s = none) : parseOf s = ([], 20) := by unfold parseOf r9parse; rw [h]; rfl
theorem parse_some {s : Str} {l : List Tok} (h : r8all s = some l) : ∃ r, Rd.program (3 * s.length + 10) (Rd.begin_ l) = some r ∧ r.rows.length ≤ 3 * s.length + 4 ∧ r.at_ ≤ 2 * s.length + 2 ∧ Tr r.rows ∧
 parseOf s = if r.bad = true then ([], 20) else if 20000 < r.rows.length then ([], 5) else if r.names ≠ 0 then ([], r.names) else (r.rows, 0) := by
 obtain ⟨h1, _⟩ := r8all_len h
 obtain ⟨r, hr, h2, h3⟩ := Rd.program_fuel (3 * s.length + 10) l (by omega)
 refine ⟨r, hr, by omega, by omega, Rd.program_tr _ _ _ hr, ?_⟩
 unfold parseOf r9parse
 rw [h]
 dsimp only
 rw [hr]
 dsimp only
 repeat' split
 all_goals rfl
theorem parse_tr (s : Str) : ((parseOf s).1 = [] ∨ Tr (parseOf s).1) ∧ (parseOf s).1.length ≤ 20000 := by
 cases h : r8all s with
 | none => rw [parse_none h]; exact ⟨.inl rfl, by simp⟩
 | some l =>
   obtain ⟨r, _, _, _, ht, e⟩ := parse_some h
   rw [e]
   split
   ·
    exact ⟨.inl rfl, by simp⟩
   ·
    split
    ·
     exact ⟨.inl rfl, by simp⟩
    ·
     split
     ·
      exact ⟨.inl rfl, by simp⟩
     ·
      exact ⟨.inr ht, by simp; omega⟩
end Hg
namespace Hg
def rowAt (l : List Row) (k : Nat) : Row := l.getD k default
def kidsAt (l : List Row) (k : Nat) : List Nat := (rowAt l k).node.kids
def walkGo (l : List Row) : Nat → List Nat → List Nat → Option (List Nat)
 | 0, _, _ => none
 | _ + 1, [], out => some out
 | f + 1, i :: wait, out =>
   match atI l i with
   | none => walkGo l f wait out
   | some k => if isIn out i = true then walkGo l f wait out else walkGo l f (kidsAt l k ++ wait) (out ++ [i])
def kidsSum (l : List Row) : Nat := (l.map (fun r => r.node.kids.length)).sum
def walkMu (l : List Row) (wait out : List Nat) : Nat := wait.length + kidsSum (l.filter (fun r => !isIn out r.id))
def walk (l : List Row) (id : Nat) : List Nat := (walkGo l (kidsSum l + 2) [id] []).getD []
def deepGo (D : Nat → Nat) : List Nat → Nat → Nat
 | [], most => most + 1
 | k :: ks, most => if D k = 0 then 0 else deepGo D ks (max most (D k))
def deepF (l : List Row) : Nat → Nat → Nat
 | 0, _ => 0
 | n + 1, id => deepGo (deepF l n) (kidsAt l ((atI l id).getD 0)) 0
def treeKids (l : List Row) : List Nat → Nat → Option Nat
 | [], n => some n
 | k :: ks, n => if atI l k = none ∨ k = 1 then none else treeKids l ks (n + 1)
def treeRows (l : List Row) : List Row → Nat → Option Nat
 | [], n => some n
 | r :: rs, n => if r.node.ref ≠ 0 ∧ atI l r.node.ref = none then none else
   match treeKids l r.node.kids n with
   | none => none
   | some n => treeRows l rs n
def tree (l : List Row) : Bool :=
 match atI l 1 with
 | none => false
 | some k => if (rowAt l k).node.kind ≠ 1 ∨ (walk l 1).length ≠ l.length then false else
   match treeRows l l 0 with
   | none => false
   | some n => decide (n + 1 = l.length) && decide (0 < deepF l 200 1)
def isExpr (kind : Nat) : Bool := decide (13 ≤ kind) && decide (kind ≤ 20)
def classOf (kind : Nat) : UInt8 :=
 if kind = 19 then 67 else if isExpr kind then 69 else if kind = 10 then 82 else if 6 ≤ kind ∧ kind ≤ 12 then 83 else if kind = 5 then 66 else if kind = 4 then 80 else if kind = 3 then 70 else if kind = 2 then 77 else 88
def only (s letters : Str) : Bool := s.all (fun c => letters.any (fun x => c == x))
def fits (kind : Nat) (s : Str) (body : Bool) : Bool :=
 if kind = 1 then only s [77]
 else if kind = 2 then only s [70]
 else if kind = 3 then decide (0 < s.length) && only (s.take (s.length - 1)) [80] && s.drop (s.length - 1) == [66]
 else if kind = 5 then (if body then decide (0 < s.length) && only (s.take (s.length - 1)) [83] && s.drop (s.length - 1) == [82] else only s [83])
 else if kind = 6 ∨ kind = 7 ∨ kind = 10 ∨ kind = 11 ∨ kind = 16 ∨ kind = 17 then decide (s.length = 1) && only s [69, 67]
 else if kind = 8 then decide (s.length = 3) && only (s.take 1) [69, 67] && s.drop 1 == [66, 66]
 else if kind = 9 then decide (s.length = 2) && only (s.take 1) [69, 67] && s.drop 1 == [66]
 else if kind = 12 then s == [67]
 else if kind = 18 then decide (s.length = 2) && only s [69, 67]
 else if kind = 19 then only s [69, 67]
 else decide (s.length = 0)
def kindOf (l : List Row) (id : Nat) : Nat := (nodeOf l id).kind
def classes (l : List Row) (kids : List Nat) : Str := kids.map (fun k => classOf (kindOf l k))
def isNamed (k : Nat) : Bool := decide (k = 2) || decide (k = 3) || decide (k = 4) || decide (k = 6)
def shapedRow (l : List Row) (r : Row) : Bool :=
 let n := r.node
 if n.kind < 1 ∨ 20 < n.kind ∨ decide (n.kind = 1) ≠ decide (r.id = 1) ∨ fits n.kind (classes l n.kids) (decide (kindOf l (parentOf l r.id).1 = 3)) = false then false
 else if isNamed n.kind ≠ (n.name != []) ∨ isNamed n.kind = true ∧ (r8name n.name = false ∨ inL words n.name = true) then false
 else if (isNamed n.kind && decide (n.kind ≠ 2)) ≠ (decide (n.type = 1) || decide (n.type = 2)) ∨ (isNamed n.kind && decide (n.kind ≠ 2)) = false ∧ n.type ≠ 0 then false
 else if n.kind = 7 ∨ n.kind = 15 then
  (if kindOf l n.ref ≠ 4 ∧ kindOf l n.ref ≠ 6 then false else decide (n.num = 0))
 else if n.kind = 19 then
  (if kindOf l n.ref ≠ 3 then false else decide (n.num = 0))
 else if n.ref ≠ 0 then false
 else if n.kind = 13 then decide (0 ≤ n.num)
 else if n.kind = 14 then decide (0 ≤ n.num ∧ n.num ≤ 1)
 else if n.kind = 18 then decide (1 ≤ n.num ∧ n.num ≤ 13)
 else decide (n.num = 0)
def depthGo (l : List Row) (D : Nat → Option Nat) (kind : Nat) : List Nat → Nat → Option Nat
 | [], most => some (if 16 ≤ kind ∧ kind ≤ 19 then most + 1 else most)
 | k :: ks, most =>
   match D k with
   | none => none
   | some d => depthGo l D kind ks (max most (if kindOf l k = 5 ∧ kind ≠ 3 then d + 1 else d))
def depthF (l : List Row) : Nat → Nat → Option Nat
 | 0, _ => none
 | f + 1, id => depthGo l (depthF l f) (kindOf l id) (nodeOf l id).kids 0
def shapedDeep (l : List Row) : List Row → Option Bool
 | [] => some true
 | r :: rs => if r.node.kind = 3 then
     (match depthF l 201 r.id with
      | none => none
      | some d => if 90 < d then some false else shapedDeep l rs)
   else shapedDeep l rs
def shapedGo (l : List Row) : List Row → Bool
 | [] => true
 | r :: rs => if shapedRow l r = false then false else shapedGo l rs
def shaped (l : List Row) : Option Bool := if tree l = false then some false else if shapedGo l l = false then some false else shapedDeep l l
def typeOf (l : List Row) (id : Nat) : Nat :=
 let n := nodeOf l id
 if n.kind = 13 ∨ n.kind = 17 ∨ n.kind = 20 then 1
 else if n.kind = 14 ∨ n.kind = 16 then 2
 else if n.kind = 18 then (if 5 < n.num then 2 else 1)
 else if n.kind = 15 ∨ n.kind = 19 then (nodeOf l n.ref).type
 else 0
def paramsOf (l : List Row) (f : Nat) : List Nat := (((nodeOf l f).kids.filter (fun k => kindOf l k == 4)).map (fun k => (nodeOf l k).type))
def partBad (l : List Row) (n : Node) (i want : Nat) : Bool := decide (typeOf l (n.kids.getD i 0) ≠ want)
def partsBad (l : List Row) (n : Node) : Nat → List Nat → Bool
 | _, [] => false
 | i, x :: xs => partBad l n i x || partsBad l n (i + 1) xs
def nodeBad (l : List Row) (n : Node) (fn : Nat) : Bool :=
 if n.kind = 6 then partBad l n 0 n.type
 else if n.kind = 7 then partBad l n 0 (nodeOf l n.ref).type
 else if n.kind = 8 ∨ n.kind = 9 ∨ n.kind = 16 then partBad l n 0 2
 else if n.kind = 10 then partBad l n 0 (nodeOf l fn).type
 else if n.kind = 17 then partBad l n 0 1
 else if n.kind = 18 then
  (let want := if n.num = 10 ∨ n.num = 11 then typeOf l (n.kids.getD 0 0) else if n.num < 10 then 1 else 2
   partBad l n 0 want || partBad l n 1 want)
 else if n.kind = 19 then
  (let p := paramsOf l n.ref
   if p.length ≠ n.kids.length then true else partsBad l n 0 p)
 else false
structure Vis where
 hidden : Bool
 wrong : Bool
deriving Inhabited, DecidableEq
def visitGo (l : List Row) (V : Vis → Nat → List Nat → Option Vis) : List Nat → List Nat → Vis → Option Vis
 | [], _, v => some v
 | k :: ks, seen, v =>
   match V v k seen with
   | none => none
   | some v => visitGo l V ks (if kindOf l k = 6 ∨ kindOf l k = 4 then seen ++ [k] else seen) v
def visitF (l : List Row) (fn : Nat) : Nat → Vis → Nat → List Nat → Option Vis
 | 0, _, _, _ => none
 | f + 1, v, id, seen =>
   let n := nodeOf l id
   visitGo l (visitF l fn f) n.kids seen ⟨v.hidden || ((decide (n.kind = 7) || decide (n.kind = 15)) && !isIn seen n.ref), v.wrong || nodeBad l n fn⟩
def twice : List Str → Bool
 | s => (List.range s.length).any fun i => inL (s.take i) (s.getD i [])
def namesOf (l : List Row) (f : Nat) : List Str := ((walk l f).filter (fun id => kindOf l id == 4 || kindOf l id == 6)).map (fun id => (nodeOf l id).name)
structure Alls where
 clash : Bool
 vis : Vis
deriving Inhabited, DecidableEq
def allFuncs (l : List Row) : List Nat → List Str → Alls → Option (List Str × Alls)
 | [], funcs, a => some (funcs, a)
 | f :: fs, funcs, a =>
   match visitF l f 201 a.vis f [] with
   | none => none
   | some v => allFuncs l fs (funcs ++ [(nodeOf l f).name]) ⟨a.clash || twice (namesOf l f), v⟩
def allMods (l : List Row) : List Nat → List Str → Alls → Option (List Str × Alls)
 | [], mods, a => some (mods, a)
 | m :: ms, mods, a =>
   match allFuncs l (nodeOf l m).kids [] a with
   | none => none
   | some (funcs, a) => allMods l ms (mods ++ [(nodeOf l m).name]) ⟨a.clash || twice funcs, a.vis⟩
def allOf (l : List Row) : Option Alls :=
 match allMods l (nodeOf l 1).kids [] ⟨false, ⟨false, false⟩⟩ with
 | none => none
 | some (mods, a) => some ⟨a.clash || twice mods, a.vis⟩
def funcIn (l : List Row) (m : Nat) (mod name : Str) : List Nat → Option Nat
 | [] => none
 | f :: fs => if (nodeOf l m).name = mod ∧ (nodeOf l f).name = name then some f else funcIn l m mod name fs
def funcOf (l : List Row) (mod name : Str) : List Nat → Nat
 | [] => 0
 | m :: ms => match funcIn l m mod name (nodeOf l m).kids with
   | some f => f
   | none => funcOf l mod name ms
def wMain : Str := [109, 97, 105, 110]
def mainOf (l : List Row) : Nat :=
 let f := funcOf l wMain wMain (nodeOf l 1).kids
 if f = 0 ∨ (nodeOf l f).type ≠ 1 ∨ 0 < (paramsOf l f).length then 0 else f
def right11 (l : List Row) : Option Nat :=
 match shaped l with
 | none => none
 | some false => some 2
 | some true =>
   match allOf l with
   | none => none
   | some a => some (if a.clash then 10 else if a.vis.hidden then 9 else if a.vis.wrong then 11 else if mainOf l = 0 then 3 else 0)
theorem kidsSum_cons (r : Row) (l : List Row) : kidsSum (r :: l) = r.node.kids.length + kidsSum l := by simp [kidsSum]
theorem isIn_snoc (out : List Nat) (i x : Nat) : isIn (out ++ [i]) x = (isIn out x || (x == i)) := by
 unfold isIn
 rw [List.contains_eq_any_beq, List.contains_eq_any_beq, List.any_append]
 simp
theorem kidsSum_filter_le (l : List Row) (out : List Nat) (i : Nat) : kidsSum (l.filter (fun r => !isIn (out ++ [i]) r.id)) ≤ kidsSum (l.filter (fun r => !isIn out r.id)) := by
 induction l with
 | nil => simp
 | cons r l ih =>
   rw [List.filter_cons, List.filter_cons, isIn_snoc]
   by_cases h1 : isIn out r.id = true
   ·
    simp [h1]; exact ih
   ·
    have h1' : isIn out r.id = false := by simpa using h1
    by_cases h2 : r.id = i
    ·
     have hb : (r.id == i) = true := by simpa using h2
     rw [h1', hb]; simp [kidsSum_cons]; omega
    ·
     have hb : (r.id == i) = false := by simpa using h2
     rw [h1', hb]; simp [kidsSum_cons]; omega
theorem kidsSum_filter_new : ∀ (l : List Row) (out : List Nat) (i k : Nat), atI l i = some k → isIn out i = false →
 kidsSum (l.filter (fun r => !isIn (out ++ [i]) r.id)) + (kidsAt l k).length ≤ kidsSum (l.filter (fun r => !isIn out r.id))
 | [], out, i, k, h, ho => by simp [atI] at h
 | r :: l, out, i, k, h, ho => by
   rw [List.filter_cons, List.filter_cons, isIn_snoc]
   unfold atI at h
   rw [List.findIdx?_cons] at h
   by_cases h2 : r.id = i
   ·
    have hb : (r.id == i) = true := by simpa using h2
    rw [hb] at h
    simp at h
    subst h
    have := kidsSum_filter_le l out i
    rw [h2, ho]
    simp only [Bool.false_or, beq_self_eq_true, Bool.not_true, Bool.false_eq_true, if_false, Bool.not_false, if_true, kidsSum_cons]
    have e : (kidsAt (r :: l) 0).length = r.node.kids.length := rfl
    omega
   ·
    have hb : (r.id == i) = false := by simpa using h2
    rw [hb] at h
    simp only [Bool.false_eq_true, if_false, Option.map_eq_some_iff] at h
    obtain ⟨k', hk', rfl⟩ := h
    have ih := kidsSum_filter_new l out i k' hk' ho
    have e : (kidsAt (r :: l) (k' + 1)) = kidsAt l k' := by simp [kidsAt, rowAt]
    rw [e]
    by_cases h1 : isIn out r.id = true
    ·
     simp [h1]; exact ih
    ·
     simp [h1, h2, kidsSum_cons]; omega
theorem walk_ends (l : List Row) : ∀ (f : Nat) (wait out : List Nat), walkMu l wait out < f → ∃ r, walkGo l f wait out = some r
 | 0, wait, out, h => by omega
 | f + 1, [], out, h => ⟨out, rfl⟩
 | f + 1, i :: wait, out, h => by
   rw [walkGo]
   unfold walkMu at h
   simp only [List.length_cons] at h
   cases hk : atI l i with
   | none => exact walk_ends l f wait out (by unfold walkMu; omega)
   | some k =>
     dsimp only
     by_cases hi : isIn out i = true
     ·
      rw [if_pos hi]; exact walk_ends l f wait out (by unfold walkMu; omega)
     ·
      rw [if_neg hi]
      have := kidsSum_filter_new l out i k hk (by simpa using hi)
      exact walk_ends l f _ _ (by unfold walkMu; rw [List.length_append]; omega)
theorem walk_is (l : List Row) (id : Nat) : walkGo l (kidsSum l + 2) [id] [] = some (walk l id) := by
 obtain ⟨r, h⟩ := walk_ends l (kidsSum l + 2) [id] [] (by
  unfold walkMu
  have : l.filter (fun r => !isIn [] r.id) = l := by rw [List.filter_eq_self]; intro r _; rfl
  rw [this]; simp; omega)
 unfold walk
 rw [h]; rfl
end Hg
