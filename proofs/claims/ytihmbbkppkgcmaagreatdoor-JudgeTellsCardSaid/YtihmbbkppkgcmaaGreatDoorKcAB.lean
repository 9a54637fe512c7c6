/-
  Part of a proof: contracts of functions that the claim reaches, and plain lemmas.
-/
import Derived.Test.YtihmbbkppkgcmaaGreatDoorKcAA
set_option linter.all false
namespace Hg
namespace Rd
def mu (s : Rd) : Nat := if s.bad = true then 0 else s.L.length - s.at_ + 1
theorem mu_bad {s : Rd} (h : s.bad = true) : s.mu = 0 := by unfold mu; rw [if_pos h]
theorem mu_good {s : Rd} (h : ¬ s.bad = true) : s.mu = s.L.length - s.at_ + 1 := by unfold mu; rw [if_neg h]
theorem mu_pos {s : Rd} (h : ¬ s.bad = true) : 1 ≤ s.mu := by rw [mu_good h]; omega
def Q (d e : Nat) (s s' : Rd) : Prop := s'.mu ≤ s.mu - d ∧ s'.rows.length ≤ s.rows.length + e ∧ s'.at_ + 2 * s'.mu ≤ s.at_ + 2 * s.mu
def W (d e : Nat) (s s' : Rd) : Prop := s'.mu ≤ s.mu - d ∧ s'.rows.length + 3 * s'.mu ≤ s.rows.length + 3 * s.mu + e ∧ s'.at_ + 2 * s'.mu ≤ s.at_ + 2 * s.mu
theorem q_same {s s' : Rd} (hL : s'.L = s.L) (ha : s'.at_ = s.at_) (hb : s.bad = true → s'.bad = true) (hr : s'.rows.length = s.rows.length) : Q 0 0 s s' := by
 have h : s'.mu ≤ s.mu := by
  unfold mu
  rw [hL, ha]
  by_cases h1 : s.bad = true
  ·
   rw [if_pos h1, if_pos (hb h1)]; omega
  ·
   rw [if_neg h1]; split <;> omega
 refine ⟨by omega, by omega, by rw [ha]; omega⟩
theorem text_good {s : Rd} {k : Nat} (h : s.text k ≠ []) : ¬ s.bad = true ∧ s.at_ < s.L.length := by
 unfold text at h
 by_cases hb : s.bad = true
 ·
  rw [if_pos hb] at h; exact absurd rfl h
 ·
  rw [if_neg hb] at h
  refine ⟨hb, ?_⟩
  cases hg : s.L[s.at_]? with
  | none => rw [hg] at h; exact absurd rfl h
  | some t => exact (List.getElem?_eq_some_iff.1 hg).1
theorem step_text {s : Rd} {k : Nat} (h : s.text k ≠ []) : s.step.mu + 1 = s.mu ∧ s.step.at_ = s.at_ + 1 ∧ s.step.rows.length = s.rows.length := by
 obtain ⟨hb, ha⟩ := text_good h
 refine ⟨?_, rfl, rfl⟩
 rw [mu_good hb, mu_good (s := s.step) hb]
 show s.L.length - (s.at_ + 1) + 1 + 1 = s.L.length - s.at_ + 1
 omega
theorem step_any (s : Rd) : s.step.mu ≤ s.mu ∧ s.step.at_ = s.at_ + 1 ∧ s.step.rows.length = s.rows.length := by
 refine ⟨?_, rfl, rfl⟩
 unfold mu
 show (if s.bad = true then 0 else s.L.length - (s.at_ + 1) + 1) ≤ _
 split <;> omega
theorem next_text {s : Rd} {t : Str} (ht : t ≠ []) (h : s.next t = true) : ∃ k, s.text k ≠ [] := by
 unfold next at h
 rw [Bool.or_eq_true] at h
 rcases h with h | h
 ·
  exact ⟨3, by rw [beq_iff_eq.1 h]; exact ht⟩
 ·
  exact ⟨4, by rw [beq_iff_eq.1 h]; exact ht⟩
theorem step_next {s : Rd} {t : Str} (ht : t ≠ []) (h : s.next t = true) : s.step.mu + 1 = s.mu ∧ s.step.at_ = s.at_ + 1 ∧ s.step.rows.length = s.rows.length := by
 obtain ⟨k, hk⟩ := next_text ht h
 exact step_text hk
theorem setBad_q (s : Rd) : s.setBad.mu = 0 ∧ s.setBad.rows.length = s.rows.length ∧ s.setBad.at_ = s.at_ := ⟨mu_bad rfl, rfl, rfl⟩
theorem need_q (s : Rd) {t : Str} (ht : t ≠ []) : Q 1 0 s (s.need t) := by
 unfold need
 split
 ·
  rename_i h
  obtain ⟨h1, h2, h3⟩ := step_next ht h
  exact ⟨by omega, by omega, by omega⟩
 ·
  obtain ⟨h1, h2, h3⟩ := setBad_q s
  exact ⟨by omega, by omega, by omega⟩
theorem name_q (s : Rd) : Q 1 0 s s.name := by
 unfold name
 split
 ·
  obtain ⟨h1, h2, h3⟩ := setBad_q s
  exact ⟨by omega, by omega, by omega⟩
 ·
  rename_i h
  obtain ⟨h1, h2, h3⟩ := step_text h
  exact ⟨by omega, by omega, by omega⟩
theorem typed_q (s : Rd) : Q 1 0 s s.typed.2 := by
 unfold typed
 split
 ·
  rename_i h
  obtain ⟨h1, h2, h3⟩ := step_next (by decide) h
  show Q 1 0 s s.step
  exact ⟨by omega, by omega, by omega⟩
 ·
  exact need_q s (by decide)
theorem node_q (s : Rd) (u : Nat) (n : Node) : (s.node u n).mu = s.mu ∧ (s.node u n).rows.length = s.rows.length + 1 ∧ (s.node u n).at_ = s.at_ := ⟨rfl, len_node s u n, rfl⟩
theorem fault_q (s : Rd) (e : Nat) : Q 0 0 s (s.fault e) := by
 unfold fault; split
 ·
  exact q_same rfl rfl id rfl
 ·
  exact q_same rfl rfl id rfl
theorem find_q (s : Rd) (t : Str) : Q 0 0 s (s.find t).2 := by
 unfold find; split
 ·
  exact q_same rfl rfl id rfl
 ·
  exact fault_q s _
theorem setType_q (s : Rd) (k t : Nat) : Q 0 0 s (s.setType k t) := q_same rfl rfl id (by simp [setType])
theorem setRef_q (s : Rd) (k t : Nat) : Q 0 0 s (s.setRef k t) := q_same rfl rfl id (by simp [setRef])
theorem setNum_q (s : Rd) (k : Nat) (t : Int) : Q 0 0 s (s.setNum k t) := q_same rfl rfl id (by simp [setNum])
theorem declare_q (s : Rd) (t : Str) (k : Nat) : Q 0 0 s (s.declare t k) := by
 unfold declare; dsimp only; split
 ·
  have h := fault_q s 10
  exact ⟨h.1, h.2.1, h.2.2⟩
 ·
  exact q_same rfl rfl id rfl
theorem enter_q (s : Rd) : Q 0 0 s s.enter := by
 unfold enter; dsimp only; split
 ·
  exact q_same rfl rfl (fun _ => rfl) rfl
 ·
  exact q_same rfl rfl id rfl
theorem leave_q (s : Rd) : s.leave.mu = s.mu ∧ s.leave.rows = s.rows ∧ s.leave.at_ = s.at_ := ⟨rfl, rfl, rfl⟩
theorem opOf_nil : opOf [] = 0 := by decide
theorem expr_fuel (f : Nat) : (∀ s u, 3 * s.mu + 1 ≤ f → ∃ s', expr f s u = some s' ∧ W 1 0 s s') ∧ (∀ s u m, 3 * s.mu + 3 ≤ f → ∃ s', call f s u m = some s' ∧ W 1 1 s s') ∧
 (∀ b s n, 3 * s.mu + 2 ≤ f → ∃ s', args f b s n = some s' ∧ W 0 0 s s') := by
 induction f with
 | zero => exact ⟨fun s _ h => by omega, fun s _ _ h => by omega, fun _ s _ h => by omega⟩
 | succ f ih =>
   obtain ⟨ihe, ihc, iha⟩ := ih
   refine ⟨fun s u hf => ?_, fun s u m hf => ?_, fun b s n hf => ?_⟩
   ·
    rw [expr]
    by_cases h2 : s.text 2 ≠ []
    ·
     rw [if_pos h2]
     obtain ⟨a1, a2, a3⟩ := step_text h2
     obtain ⟨b1, b2, b3⟩ := node_q s.step u (ndNum 13 (r8number (s.text 2)))
     exact ⟨_, rfl, by omega, by omega, by omega⟩
    rw [if_neg h2]
    by_cases h1 : s.text 1 ≠ []
    ·
     rw [if_pos h1]
     try dsimp only
     obtain ⟨a1, a2, a3⟩ := step_text h1
     by_cases hd : s.step.next [46] = true
     ·
      rw [if_pos hd]
      obtain ⟨s', e, c1, c2, c3⟩ := ihc s.step u (s.text 1) (by omega)
      exact ⟨s', e, by omega, by omega, by omega⟩
     ·
      rw [if_neg hd]
      obtain ⟨b1, b2, b3⟩ := node_q s.step u (nd 15)
      obtain ⟨c1, c2, c3⟩ := find_q (s.step.node u (nd 15)) (s.text 1)
      obtain ⟨d1, d2, d3⟩ := setRef_q ((s.step.node u (nd 15)).find (s.text 1)).2 s.step.rows.length ((s.step.node u (nd 15)).find (s.text 1)).1
      exact ⟨_, rfl, by omega, by omega, by omega⟩
    rw [if_neg h1]
    by_cases ht : s.next wTrue = true
    ·
     rw [if_pos ht]
     obtain ⟨a1, a2, a3⟩ := step_next (by decide) ht
     obtain ⟨b1, b2, b3⟩ := node_q s.step u (ndNum 14 1)
     exact ⟨_, rfl, by omega, by omega, by omega⟩
    rw [if_neg ht]
    by_cases hfa : s.next wFalse = true
    ·
     rw [if_pos hfa]
     obtain ⟨a1, a2, a3⟩ := step_next (by decide) hfa
     obtain ⟨b1, b2, b3⟩ := node_q s.step u (nd 14)
     exact ⟨_, rfl, by omega, by omega, by omega⟩
    rw [if_neg hfa]
    by_cases hr : s.next wRead = true
    ·
     rw [if_pos hr]
     obtain ⟨a1, a2, a3⟩ := step_next (by decide) hr
     obtain ⟨b1, b2, b3⟩ := node_q s.step u (nd 20)
     exact ⟨_, rfl, by omega, by omega, by omega⟩
    rw [if_neg hr]
    by_cases hn : s.next [33] = true ∨ s.next [45] = true
    ·
     rw [if_pos hn]
     have hst : s.step.mu + 1 = s.mu ∧ s.step.at_ = s.at_ + 1 ∧ s.step.rows.length = s.rows.length := by
      rcases hn with h | h
      ·
       exact step_next (by decide) h
      ·
       exact step_next (by decide) h
     obtain ⟨a1, a2, a3⟩ := hst
     try dsimp only
     generalize (if s.next [33] = true then 16 else 17) = kind
     obtain ⟨b1, b2, b3⟩ := node_q s.step u (nd kind)
     obtain ⟨c1, c2, c3⟩ := enter_q (s.step.node u (nd kind))
     by_cases hb : (s.step.node u (nd kind)).enter.bad = true
     ·
      rw [if_pos hb]
      obtain ⟨d1, d2, d3⟩ := leave_q (s.step.node u (nd kind)).enter
      exact ⟨_, rfl, by omega, by rw [d2]; omega, by omega⟩
     ·
      rw [if_neg hb]
      obtain ⟨s', e, e1, e2, e3⟩ := ihe (s.step.node u (nd kind)).enter s.rows.length (by omega)
      rw [e]
      obtain ⟨d1, d2, d3⟩ := leave_q s'
      exact ⟨_, rfl, by omega, by rw [d2]; omega, by omega⟩
    rw [if_neg hn]
    by_cases hp : s.next [40] = true
    ·
     rw [if_pos hp]
     obtain ⟨a1, a2, a3⟩ := step_next (by decide) hp
     try dsimp only
     obtain ⟨b1, b2, b3⟩ := node_q s.step u (nd 18)
     obtain ⟨c1, c2, c3⟩ := enter_q (s.step.node u (nd 18))
     by_cases hb : (s.step.node u (nd 18)).enter.bad = true
     ·
      rw [if_pos hb]
      obtain ⟨d1, d2, d3⟩ := leave_q (s.step.node u (nd 18)).enter
      exact ⟨_, rfl, by omega, by rw [d2]; omega, by omega⟩
     ·
      rw [if_neg hb]
      obtain ⟨s1, e, e1, e2, e3⟩ := ihe (s.step.node u (nd 18)).enter s.rows.length (by omega)
      rw [e]
      try dsimp only
      obtain ⟨g1, g2, g3⟩ := setNum_q s1 s.rows.length (opOf (s1.text 4) : Nat)
      have hmid : ∀ m, m = (if opOf (s1.text 4) = 0 then (s1.setNum s.rows.length (opOf (s1.text 4) : Nat)).setBad else s1.setNum s.rows.length (opOf (s1.text 4) : Nat)).step →
       m.mu ≤ s1.mu ∧ m.rows.length ≤ s1.rows.length ∧ m.at_ + 2 * m.mu ≤ s1.at_ + 2 * s1.mu + 1 := by
       intro m hm
       subst hm
       by_cases h0 : opOf (s1.text 4) = 0
       ·
        rw [if_pos h0]
        obtain ⟨k1, k2, k3⟩ := setBad_q (s1.setNum s.rows.length (opOf (s1.text 4) : Nat))
        obtain ⟨l1, l2, l3⟩ := step_any (s1.setNum s.rows.length (opOf (s1.text 4) : Nat)).setBad
        exact ⟨by omega, by omega, by omega⟩
       ·
        rw [if_neg h0]
        have h4 : s1.text 4 ≠ [] := fun hh => by rw [hh] at h0; exact h0 opOf_nil
        obtain ⟨l1, l2, l3⟩ := step_text (s := s1.setNum s.rows.length (opOf (s1.text 4) : Nat)) (k := 4) h4
        exact ⟨by omega, by omega, by omega⟩
      obtain ⟨m1, m2, m3⟩ := hmid _ rfl
      generalize (if opOf (s1.text 4) = 0 then (s1.setNum s.rows.length (opOf (s1.text 4) : Nat)).setBad else s1.setNum s.rows.length (opOf (s1.text 4) : Nat)).step = m at m1 m2 m3 ⊢
      obtain ⟨s2, n, n1, n2, n3⟩ := ihe m s.rows.length (by omega)
      rw [n]
      obtain ⟨o1, o2, o3⟩ := need_q s2 (t := [41]) (by decide)
      obtain ⟨d1, d2, d3⟩ := leave_q (s2.need [41])
      exact ⟨_, rfl, by omega, by rw [d2]; omega, by omega⟩
    rw [if_neg hp]
    obtain ⟨k1, k2, k3⟩ := setBad_q s
    exact ⟨_, rfl, by omega, by omega, by omega⟩
   ·
    rw [call]
    try dsimp only
    obtain ⟨a1, a2, a3⟩ := node_q s u (nd 19)
    obtain ⟨b1, b2, b3⟩ := need_q (s.node u (nd 19)) (t := [46]) (by decide)
    obtain ⟨c1, c2, c3⟩ := name_q ((s.node u (nd 19)).need [46])
    have hq : ∀ (cl : List Nat) (wl : List Str), Q 0 0 ((s.node u (nd 19)).need [46]).name { ((s.node u (nd 19)).need [46]).name with calls := cl, wants := wl } := fun _ _ => q_same rfl rfl id rfl
    obtain ⟨d1, d2, d3⟩ := hq (((s.node u (nd 19)).need [46]).name.calls ++ [((s.node u (nd 19)).need [46]).name.idAt s.rows.length]) (((s.node u (nd 19)).need [46]).name.wants ++ [m ++ [32] ++ ((s.node u (nd 19)).need [46]).text 1])
    generalize ({ ((s.node u (nd 19)).need [46]).name with calls := ((s.node u (nd 19)).need [46]).name.calls ++ [((s.node u (nd 19)).need [46]).name.idAt s.rows.length], wants := ((s.node u (nd 19)).need [46]).name.wants ++ [m ++ [32] ++ ((s.node u (nd 19)).need [46]).text 1] } : Rd) = b at d1 d2 d3 ⊢
    obtain ⟨e1, e2, e3⟩ := enter_q b
    by_cases hb : b.enter.bad = true
    ·
     rw [if_pos hb]
     obtain ⟨g1, g2, g3⟩ := leave_q b.enter
     exact ⟨_, rfl, by omega, by rw [g2]; omega, by omega⟩
    ·
     rw [if_neg hb]
     obtain ⟨k1, k2, k3⟩ := need_q b.enter (t := [40]) (by decide)
     have := mu_pos hb
     obtain ⟨s1, e, l1, l2, l3⟩ := iha true (b.enter.need [40]) s.rows.length (by omega)
     rw [e]
     obtain ⟨g1, g2, g3⟩ := leave_q s1
     exact ⟨_, rfl, by omega, by rw [g2]; omega, by omega⟩
   ·
    rw [args]
    by_cases hb : s.bad = true
    ·
     rw [if_pos hb]
     exact ⟨_, rfl, by omega, by omega, by omega⟩
    rw [if_neg hb]
    by_cases hn : s.next [41] = true
    ·
     rw [if_pos hn]
     obtain ⟨a1, a2, a3⟩ := step_next (by decide) hn
     exact ⟨_, rfl, by omega, by omega, by omega⟩
    rw [if_neg hn]
    have hq : Q 0 0 s (if b = true then s else s.need [44]) := by
     split
     ·
      exact ⟨by omega, by omega, by omega⟩
     ·
      obtain ⟨k1, k2, k3⟩ := need_q s (t := [44]) (by decide)
      exact ⟨by omega, by omega, by omega⟩
    obtain ⟨a1, a2, a3⟩ := hq
    have := mu_pos hb
    obtain ⟨s1, e, b1, b2, b3⟩ := ihe (if b = true then s else s.need [44]) n (by omega)
    rw [e]
    try dsimp only
    obtain ⟨s2, e2, c1, c2, c3⟩ := iha false s1 n (by omega)
    exact ⟨s2, e2, by omega, by omega, by omega⟩
theorem stmt_fuel (f : Nat) : (∀ s u, 3 * s.mu + 3 ≤ f → ∃ s', stmt f s u = some s' ∧ W 1 (if s.bad = true then 1 else 0) s s') ∧ (∀ s u, 3 * s.mu + 3 ≤ f → ∃ s', block f s u = some s' ∧ W 0 1 s s') ∧
 (∀ s n, 3 * s.mu + 4 ≤ f → ∃ s', stmts f s n = some s' ∧ W 0 0 s s') := by
 induction f with
 | zero => exact ⟨fun s _ h => by omega, fun s _ h => by omega, fun s _ h => by omega⟩
 | succ f ih =>
   obtain ⟨ihs, ihb, ihl⟩ := ih
   obtain ⟨ihe, ihc, _⟩ := expr_fuel f
   refine ⟨fun s u hf => ?_, fun s u hf => ?_, fun s n hf => ?_⟩
   ·
    rw [stmt]
    try dsimp only
    have hw : (0 : Nat) ≤ (if s.bad = true then 1 else 0) := Nat.zero_le _
    generalize hwe : (if s.bad = true then 1 else 0) = wx at hw ⊢
    by_cases h1 : s.next wLet = true
    ·
     rw [if_pos h1]
     obtain ⟨a1, a2, a3⟩ := step_next (by decide) h1
     obtain ⟨b1, b2, b3⟩ := name_q s.step
     obtain ⟨c1, c2, c3⟩ := node_q s.step.name u (ndNamed 6 (s.step.text 1))
     obtain ⟨d1, d2, d3⟩ := typed_q (s.step.name.node u (ndNamed 6 (s.step.text 1)))
     obtain ⟨e1, e2, e3⟩ := setType_q (s.step.name.node u (ndNamed 6 (s.step.text 1))).typed.2 s.rows.length (s.step.name.node u (ndNamed 6 (s.step.text 1))).typed.1
     obtain ⟨g1, g2, g3⟩ := need_q ((s.step.name.node u (ndNamed 6 (s.step.text 1))).typed.2.setType s.rows.length (s.step.name.node u (ndNamed 6 (s.step.text 1))).typed.1) (t := [61]) (by decide)
     generalize (((s.step.name.node u (ndNamed 6 (s.step.text 1))).typed.2.setType s.rows.length (s.step.name.node u (ndNamed 6 (s.step.text 1))).typed.1).need [61]) = a at g1 g2 g3 ⊢
     obtain ⟨b, e, k1, k2, k3⟩ := ihe a s.rows.length (by omega)
     rw [e]
     obtain ⟨l1, l2, l3⟩ := declare_q b (s.step.text 1) s.rows.length
     obtain ⟨m1, m2, m3⟩ := need_q (b.declare (s.step.text 1) s.rows.length) (t := [59]) (by decide)
     exact ⟨_, rfl, by omega, by omega, by omega⟩
    rw [if_neg h1]
    by_cases h2 : s.next wIf = true
    ·
     rw [if_pos h2]
     obtain ⟨a1, a2, a3⟩ := step_next (by decide) h2
     obtain ⟨c1, c2, c3⟩ := node_q s.step u (nd 8)
     obtain ⟨a, e, k1, k2, k3⟩ := ihe (s.step.node u (nd 8)) s.rows.length (by omega)
     rw [e]
     try dsimp only
     obtain ⟨b, e2, l1, l2, l3⟩ := ihb a s.rows.length (by omega)
     rw [e2]
     try dsimp only
     obtain ⟨m1, m2, m3⟩ := need_q b (t := wElse) (by decide)
     obtain ⟨c, e4, n1, n2, n3⟩ := ihb (b.need wElse) s.rows.length (by omega)
     exact ⟨c, e4, by omega, by omega, by omega⟩
    rw [if_neg h2]
    by_cases h3 : s.next wWhile = true
    ·
     rw [if_pos h3]
     obtain ⟨a1, a2, a3⟩ := step_next (by decide) h3
     obtain ⟨c1, c2, c3⟩ := node_q s.step u (nd 9)
     obtain ⟨a, e, k1, k2, k3⟩ := ihe (s.step.node u (nd 9)) s.rows.length (by omega)
     rw [e]
     try dsimp only
     obtain ⟨b, e2, l1, l2, l3⟩ := ihb a s.rows.length (by omega)
     exact ⟨b, e2, by omega, by omega, by omega⟩
    rw [if_neg h3]
    by_cases h4 : s.next wPrint = true
    ·
     rw [if_pos h4]
     obtain ⟨a1, a2, a3⟩ := step_next (by decide) h4
     obtain ⟨c1, c2, c3⟩ := node_q s.step u (nd 11)
     obtain ⟨a, e, k1, k2, k3⟩ := ihe (s.step.node u (nd 11)) s.rows.length (by omega)
     rw [e]
     obtain ⟨m1, m2, m3⟩ := need_q a (t := [59]) (by decide)
     exact ⟨a.need [59], rfl, by omega, by omega, by omega⟩
    rw [if_neg h4]
    by_cases h5 : s.next wDo = true
    ·
     rw [if_pos h5]
     obtain ⟨a1, a2, a3⟩ := step_next (by decide) h5
     obtain ⟨c1, c2, c3⟩ := node_q s.step u (nd 12)
     obtain ⟨d1, d2, d3⟩ := name_q (s.step.node u (nd 12))
     obtain ⟨a, e, k1, k2, k3⟩ := ihc (s.step.node u (nd 12)).name s.rows.length ((s.step.node u (nd 12)).text 1) (by omega)
     rw [e]
     obtain ⟨m1, m2, m3⟩ := need_q a (t := [59]) (by decide)
     exact ⟨a.need [59], rfl, by omega, by omega, by omega⟩
    rw [if_neg h5]
    have hx : s.mu = 0 → wx = 1 := fun h0 => by
     rw [← hwe]
     by_cases hb : s.bad = true
     ·
      rw [if_pos hb]
     ·
      have := mu_pos hb; omega
    obtain ⟨a1, a2, a3⟩ := name_q s
    obtain ⟨c1, c2, c3⟩ := node_q s.name u (nd 7)
    obtain ⟨d1, d2, d3⟩ := find_q (s.name.node u (nd 7)) (s.text 1)
    obtain ⟨e1, e2, e3⟩ := setRef_q ((s.name.node u (nd 7)).find (s.text 1)).2 s.rows.length ((s.name.node u (nd 7)).find (s.text 1)).1
    obtain ⟨g1, g2, g3⟩ := need_q (((s.name.node u (nd 7)).find (s.text 1)).2.setRef s.rows.length ((s.name.node u (nd 7)).find (s.text 1)).1) (t := [61]) (by decide)
    generalize ((((s.name.node u (nd 7)).find (s.text 1)).2.setRef s.rows.length ((s.name.node u (nd 7)).find (s.text 1)).1).need [61]) = a at g1 g2 g3 ⊢
    obtain ⟨b, e, k1, k2, k3⟩ := ihe a s.rows.length (by omega)
    rw [e]
    obtain ⟨m1, m2, m3⟩ := need_q b (t := [59]) (by decide)
    refine ⟨b.need [59], rfl, by omega, ?_, by omega⟩
    by_cases h0 : s.mu = 0
    ·
     have := hx h0; omega
    ·
     omega
   ·
    rw [block]
    try dsimp only
    obtain ⟨a1, a2, a3⟩ := node_q s u (nd 5)
    have hq : Q 0 0 (s.node u (nd 5)) ({ (s.node u (nd 5)) with level := (s.node u (nd 5)).level + 1 } : Rd) := q_same rfl rfl id rfl
    obtain ⟨b1, b2, b3⟩ := hq
    generalize ({ (s.node u (nd 5)) with level := (s.node u (nd 5)).level + 1 } : Rd) = b at b1 b2 b3 ⊢
    obtain ⟨c1, c2, c3⟩ := enter_q b
    by_cases hb : b.enter.bad = true
    ·
     rw [if_pos hb]
     obtain ⟨d1, d2, d3⟩ := leave_q b.enter
     exact ⟨_, rfl, by show b.enter.leave.mu ≤ _; omega, by show b.enter.leave.rows.length + 3 * b.enter.leave.mu ≤ _; rw [d2]; omega, by show b.enter.leave.at_ + 2 * b.enter.leave.mu ≤ _; omega⟩
    ·
     rw [if_neg hb]
     have := mu_pos hb
     obtain ⟨k1, k2, k3⟩ := need_q b.enter (t := [123]) (by decide)
     obtain ⟨a, e, l1, l2, l3⟩ := ihl (b.enter.need [123]) s.rows.length (by omega)
     rw [e]
     obtain ⟨d1, d2, d3⟩ := leave_q a
     exact ⟨_, rfl, by show a.leave.mu ≤ _; omega, by show a.leave.rows.length + 3 * a.leave.mu ≤ _; rw [d2]; omega, by show a.leave.at_ + 2 * a.leave.mu ≤ _; omega⟩
   ·
    rw [stmts]
    by_cases hb : s.bad = true
    ·
     rw [if_pos hb]
     exact ⟨_, rfl, by omega, by omega, by omega⟩
    rw [if_neg hb]
    by_cases hn : s.next [125] = true
    ·
     rw [if_pos hn]
     obtain ⟨a1, a2, a3⟩ := step_next (by decide) hn
     exact ⟨_, rfl, by omega, by omega, by omega⟩
    rw [if_neg hn]
    have := mu_pos hb
    obtain ⟨a, e, k1, k2, k3⟩ := ihs s n (by omega)
    rw [if_neg hb] at k2
    rw [e]
    try dsimp only
    obtain ⟨b, e2, l1, l2, l3⟩ := ihl a n (by omega)
    exact ⟨b, e2, by omega, by omega, by omega⟩
theorem params_fuel : ∀ (f : Nat) (b : Bool) (s : Rd) (k : Nat), s.mu + 1 ≤ f → ∃ s', params f b s k = some s' ∧ W 0 0 s s' := by
 intro f
 induction f with
 | zero => intro b s k h; omega
 | succ f ih =>
   intro b s k hf
   rw [params]
   by_cases hb : s.bad = true
   ·
    rw [if_pos hb]
    exact ⟨_, rfl, by omega, by omega, by omega⟩
   rw [if_neg hb]
   by_cases hn : s.next [41] = true
   ·
    rw [if_pos hn]
    obtain ⟨a1, a2, a3⟩ := step_next (by decide) hn
    exact ⟨_, rfl, by omega, by omega, by omega⟩
   rw [if_neg hn]
   try dsimp only
   have hm := mu_pos hb
   have hq : Q 0 0 s (if b = true then s else s.need [44]) := by
    split
    ·
     exact ⟨by omega, by omega, by omega⟩
    ·
     obtain ⟨k1, k2, k3⟩ := need_q s (t := [44]) (by decide)
     exact ⟨by omega, by omega, by omega⟩
   have hx : (if b = true then s else s.need [44]).mu = 0 → (if b = true then s else s.need [44]).mu < s.mu := fun h => by omega
   obtain ⟨z1, z2, z3⟩ := hq
   generalize (if b = true then s else s.need [44]) = r at z1 z2 z3 hx ⊢
   obtain ⟨b1, b2, b3⟩ := name_q r
   obtain ⟨c1, c2, c3⟩ := node_q r.name k (ndNamed 4 (r.text 1))
   obtain ⟨d1, d2, d3⟩ := typed_q (r.name.node k (ndNamed 4 (r.text 1)))
   obtain ⟨e1, e2, e3⟩ := setType_q (r.name.node k (ndNamed 4 (r.text 1))).typed.2 r.rows.length (r.name.node k (ndNamed 4 (r.text 1))).typed.1
   obtain ⟨l1, l2, l3⟩ := declare_q ((r.name.node k (ndNamed 4 (r.text 1))).typed.2.setType r.rows.length (r.name.node k (ndNamed 4 (r.text 1))).typed.1) (r.text 1) r.rows.length
   obtain ⟨s', e, m1, m2, m3⟩ := ih false (((r.name.node k (ndNamed 4 (r.text 1))).typed.2.setType r.rows.length (r.name.node k (ndNamed 4 (r.text 1))).typed.1).declare (r.text 1) r.rows.length) k (by omega)
   exact ⟨s', e, by omega, by omega, by omega⟩
theorem body_fuel : ∀ (f : Nat) (s : Rd) (n : Nat), 3 * s.mu + 4 ≤ f → ∃ s', body f s n = some s' ∧ W 0 0 s s' := by
 intro f
 induction f with
 | zero => intro s n h; omega
 | succ f ih =>
   intro s n hf
   rw [body]
   by_cases hb : s.bad = true ∨ s.next wReturn = true
   ·
    rw [if_pos hb]
    exact ⟨_, rfl, by omega, by omega, by omega⟩
   rw [if_neg hb]
   have hbb : ¬ s.bad = true := fun h => hb (.inl h)
   have := mu_pos hbb
   obtain ⟨a, e, k1, k2, k3⟩ := (stmt_fuel f).1 s n (by omega)
   rw [if_neg hbb] at k2
   rw [e]
   try dsimp only
   obtain ⟨b, e2, l1, l2, l3⟩ := ih a n (by omega)
   exact ⟨b, e2, by omega, by omega, by omega⟩
theorem func_fuel (f : Nat) (s : Rd) (u : Nat) (m : Str) (hb : ¬ s.bad = true) (hf : 3 * s.mu + 4 ≤ f) : ∃ s', func f s u m = some s' ∧ W 1 0 s s' := by
 unfold func
 try dsimp only
 have hm := mu_pos hb
 obtain ⟨a1, a2, a3⟩ := need_q s (t := wFunc) (by decide)
 obtain ⟨b1, b2, b3⟩ := name_q (s.need wFunc)
 generalize (s.need wFunc).text 1 = t
 generalize (s.need wFunc).name = a at b1 b2 b3 ⊢
 have hq : Q 0 0 a (if inL a.funcs (m ++ [32] ++ t) = true then a.fault 10 else a) := by
  split
  ·
   exact fault_q a 10
  ·
   exact ⟨by omega, by omega, by omega⟩
 obtain ⟨c1, c2, c3⟩ := hq
 generalize (if inL a.funcs (m ++ [32] ++ t) = true then a.fault 10 else a) = b at c1 c2 c3 ⊢
 change ∃ s', (match params f true (((b.node u (ndNamed 3 t)).openF (m ++ [32] ++ t) b.rows.length).need [40]) b.rows.length with
  | none => none
  | some r => _) = some s' ∧ _
 obtain ⟨d1, d2, d3⟩ := node_q b u (ndNamed 3 t)
 have hq2 : Q 0 0 (b.node u (ndNamed 3 t)) ((b.node u (ndNamed 3 t)).openF (m ++ [32] ++ t) b.rows.length) := q_same rfl rfl id rfl
 obtain ⟨e1, e2, e3⟩ := hq2
 generalize (b.node u (ndNamed 3 t)).openF (m ++ [32] ++ t) b.rows.length = c at e1 e2 e3 ⊢
 obtain ⟨g1, g2, g3⟩ := need_q c (t := [40]) (by decide)
 obtain ⟨p, hp, k1, k2, k3⟩ := params_fuel f true (c.need [40]) b.rows.length (by omega)
 rw [hp]
 try dsimp only
 obtain ⟨l1, l2, l3⟩ := typed_q p
 obtain ⟨m1, m2, m3⟩ := setType_q p.typed.2 b.rows.length p.typed.1
 obtain ⟨n1, n2, n3⟩ := node_q (p.typed.2.setType b.rows.length p.typed.1) b.rows.length (nd 5)
 obtain ⟨o1, o2, o3⟩ := need_q ((p.typed.2.setType b.rows.length p.typed.1).node b.rows.length (nd 5)) (t := [123]) (by decide)
 generalize ((p.typed.2.setType b.rows.length p.typed.1).node b.rows.length (nd 5)).need [123] = q at o1 o2 o3 ⊢
 obtain ⟨v, hv, p1, p2, p3⟩ := body_fuel f q (p.typed.2.setType b.rows.length p.typed.1).rows.length (by omega)
 rw [hv]
 try dsimp only
 obtain ⟨q1, q2, q3⟩ := need_q v (t := wReturn) (by decide)
 obtain ⟨r1, r2, r3⟩ := node_q (v.need wReturn) (p.typed.2.setType b.rows.length p.typed.1).rows.length (nd 10)
 obtain ⟨x, hx, s1, s2, s3⟩ := (expr_fuel f).1 ((v.need wReturn).node (p.typed.2.setType b.rows.length p.typed.1).rows.length (nd 10)) (v.need wReturn).rows.length (by omega)
 rw [hx]
 obtain ⟨t1, t2, t3⟩ := need_q x (t := [59]) (by decide)
 obtain ⟨u1, u2, u3⟩ := need_q (x.need [59]) (t := [125]) (by decide)
 exact ⟨_, rfl, by omega, by omega, by omega⟩
theorem funcsLoop_fuel (f : Nat) : ∀ (g : Nat) (s : Rd) (m : Nat) (t : Str), 3 * s.mu + 4 ≤ f → s.mu + 1 ≤ g → ∃ s', funcsLoop f g s m t = some s' ∧ W 0 0 s s' := by
 intro g
 induction g with
 | zero => intro s m t h h2; omega
 | succ g ih =>
   intro s m t hf hg
   rw [funcsLoop]
   by_cases hb : s.bad = true
   ·
    rw [if_pos hb]
    exact ⟨_, rfl, by omega, by omega, by omega⟩
   rw [if_neg hb]
   by_cases hn : s.next [125] = true
   ·
    rw [if_pos hn]
    obtain ⟨a1, a2, a3⟩ := step_next (by decide) hn
    exact ⟨_, rfl, by omega, by omega, by omega⟩
   rw [if_neg hn]
   have := mu_pos hb
   obtain ⟨a, e, k1, k2, k3⟩ := func_fuel f s m t hb hf
   rw [e]
   try dsimp only
   obtain ⟨b, e2, l1, l2, l3⟩ := ih a m t (by omega) (by omega)
   exact ⟨b, e2, by omega, by omega, by omega⟩
theorem modsLoop_fuel (f : Nat) : ∀ (g : Nat) (s : Rd) (root : Nat), 3 * s.mu + 4 ≤ f → s.mu + 1 ≤ g → ∃ s', modsLoop f g s root = some s' ∧ W 0 0 s s' := by
 intro g
 induction g with
 | zero => intro s r h h2; omega
 | succ g ih =>
   intro s root hf hg
   rw [modsLoop]
   by_cases hb : s.bad = true ∨ s.L.length ≤ s.at_
   ·
    rw [if_pos hb]
    exact ⟨_, rfl, by omega, by omega, by omega⟩
   rw [if_neg hb]
   try dsimp only
   have hbb : ¬ s.bad = true := fun h => hb (.inl h)
   have := mu_pos hbb
   obtain ⟨a1, a2, a3⟩ := need_q s (t := wModule) (by decide)
   obtain ⟨b1, b2, b3⟩ := name_q (s.need wModule)
   generalize (s.need wModule).text 1 = t
   generalize (s.need wModule).name = a at b1 b2 b3 ⊢
   have hq : Q 0 0 a (if inL a.mods t = true then a.fault 10 else a) := by
    split
    ·
     exact fault_q a 10
    ·
     exact ⟨by omega, by omega, by omega⟩
   obtain ⟨c1, c2, c3⟩ := hq
   generalize (if inL a.mods t = true then a.fault 10 else a) = b at c1 c2 c3 ⊢
   have hq2 : Q 0 0 b ({ b with mods := b.mods ++ [t] } : Rd) := q_same rfl rfl id rfl
   obtain ⟨d1, d2, d3⟩ := hq2
   generalize ({ b with mods := b.mods ++ [t] } : Rd) = c at d1 d2 d3 ⊢
   obtain ⟨e1, e2, e3⟩ := node_q c root (ndNamed 2 t)
   obtain ⟨g1, g2, g3⟩ := need_q (c.node root (ndNamed 2 t)) (t := [123]) (by decide)
   obtain ⟨d, hd, k1, k2, k3⟩ := funcsLoop_fuel f f ((c.node root (ndNamed 2 t)).need [123]) b.rows.length t (by omega) (by omega)
   rw [hd]
   try dsimp only
   obtain ⟨x, hx, l1, l2, l3⟩ := ih d root (by omega) (by omega)
   exact ⟨x, hx, by omega, by omega, by omega⟩
theorem link_q : ∀ (is : List Nat) (ws : List Str) (s : Rd), Q 0 0 s (link is ws s) := by
 intro is
 induction is with
 | nil => intro ws s; cases ws <;> exact ⟨by simp [link], by simp [link], by simp [link]⟩
 | cons i is ih =>
   intro ws s
   cases ws with
   | nil => exact ⟨by simp [link], by simp [link], by simp [link]⟩
   | cons t ws =>
     rw [link]
     try dsimp only
     have hq : Q 0 0 s (if lastOf s.funcs s.ids t = 0 then s.fault 9 else s) := by
      split
      ·
       exact fault_q s 9
      ·
       exact ⟨by omega, by omega, by omega⟩
     obtain ⟨a1, a2, a3⟩ := hq
     obtain ⟨b1, b2, b3⟩ := setRef_q (if lastOf s.funcs s.ids t = 0 then s.fault 9 else s) (i - 1) (lastOf s.funcs s.ids t)
     obtain ⟨c1, c2, c3⟩ := ih ws ((if lastOf s.funcs s.ids t = 0 then s.fault 9 else s).setRef (i - 1) (lastOf s.funcs s.ids t))
     exact ⟨by omega, by omega, by omega⟩
theorem program_fuel (f : Nat) (l : List Tok) (hf : 3 * l.length + 10 ≤ f) : ∃ s', program f (begin_ l) = some s' ∧ s'.rows.length ≤ 3 * l.length + 4 ∧ s'.at_ ≤ 2 * l.length + 2 := by
 unfold program
 try dsimp only
 have h0 : (begin_ l).mu = l.length + 1 := mu_good (by simp [begin_])
 have h1 : (begin_ l).rows.length = 0 := rfl
 have h2 : (begin_ l).at_ = 0 := rfl
 obtain ⟨a1, a2, a3⟩ := node_q (begin_ l) 0 (nd 1)
 obtain ⟨s1, e, b1, b2, b3⟩ := modsLoop_fuel f f ((begin_ l).node 0 (nd 1)) (begin_ l).rows.length (by omega) (by omega)
 rw [e]
 obtain ⟨c1, c2, c3⟩ := link_q s1.calls s1.wants s1
 exact ⟨_, rfl, by omega, by omega⟩
end Rd
end Hg
