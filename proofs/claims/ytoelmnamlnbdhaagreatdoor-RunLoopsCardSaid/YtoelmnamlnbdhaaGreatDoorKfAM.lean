/-
  Part of a proof of RunLoops: contracts of functions that the claim reaches, and plain lemmas.
-/
import Derived.Test.YtoelmnamlnbdhaaGreatDoorKfAF
import Derived.Test.YtoelmnamlnbdhaaGreatDoorKfAB
import Derived.Test.YtoelmnamlnbdhaaGreatDoorKfAH
import Derived.Test.YtoelmnamlnbdhaaGreatDoorKfAK
import Derived.Test.YtoelmnamlnbdhaaGreatDoorKfAG
import Derived.Test.YtoelmnamlnbdhaaGreatDoorKfAA
set_option linter.all false
namespace Go.Proofs.YtoelmnamlnbdhaaGreatDoor
open Go.RowKit
theorem step_append_own {P : Program} {ops : Array Oper} {o : Oper} {a : Act} {w : World} {K : Act → World → Prop} {Q : Exit → Act → World → Prop} {E : Prop} (hgd : o.guard = none) (s x : Operand) (t : TypeId)
 (ho : o.op = .call { callee := .builtin .append, args := #[s, x], argTypes := #[t, t] })
 (base : Nat) (e : TypeId) (i : TypeInfo) (z : Value) (size bytes : Nat) (ht : P.underlying t = some (.slice e)) (hi : P.info? e = some i) (hz : i.zero = some z)
 (hsize : i.size = size) (hby : i.bytes = bytes) (hzs : z.cells.size = size) (hsz : 0 < size)
 (v : Value) (n : Nat) (xs : List Value) (hs : a.eval s = v) (hown : w.ownsRow base e size v n xs)
 (ad : Addr) (m c : Nat) (news : List Value) (hx : a.eval x = .slice (some ad) m c) (hl : news.length = m * size) (hnews : ∀ j u, news[j]? = some u → w.cell? (ad.add j) = some u) (h1 : ∀ u ∈ news, u.oneCell' = true)
 (h63 : n + m ≤ maxLen) (hbytes : (n + m) * bytes ≤ 140737488355328) (hbase : base ≤ w.heap.size)
 (h : ∀ v' w', w'.ownsRow base e size v' (n + m) (xs ++ news) → w.grownBy w' v.ownBlock → (v'.ownBlock = v.ownBlock ∨ v'.ownBlock = some w.heap.size) → K (a.put o.dst v') w') :
 if Region.wanted o (yielded ops a.tmps) = true then Oper.wp P o a w K Q else E := by
 have hw : Region.wanted o (yielded ops a.tmps) = true := by simp [Region.wanted, hgd]
 rw [if_pos hw]
 obtain ⟨v', w', hr, h2, h3, h4, h5⟩ := run_append_own_at (P := P) w base t o.type e i z size bytes ht hi hz hsize hby hzs hsz v n xs hown ad m c news hl hnews h1 h63 hbytes hbase
 unfold Oper.wp execOp
 simp only [ho, resolve, invoke, builtin, Sem.run_bind, Sem.run_pure, Result.andThen_ok, List.map_toArray, List.map_cons, List.map_nil, hs, hx, hr]
 exact h v' w' h2 h3 h5
end Go.Proofs.YtoelmnamlnbdhaaGreatDoor
namespace Go.Proofs.YtoelmnamlnbdhaaGreatDoor
open Go.RowKit
structure Fin_ (s : Hg.Rd) : Prop where
 rows : s.rows.length ≤ 10000000
 at_ : s.at_ ≤ 10000000
 L : s.L.length ≤ 10000000
 txt : ∀ t ∈ s.L, t.text.length ≤ 1000000
theorem Fin_.of {s s' : Hg.Rd} (h : Fin_ s') (g : Hg.Rd.Grow s s') : Fin_ s :=
 ⟨Nat.le_trans g.len h.rows, Nat.le_trans g.at_ h.at_, by rw [← g.L]; exact h.L, by rw [← g.L]; exact h.txt⟩
structure Okk (s : Hg.Rd) : Prop where
 inv : Hg.Rd.Inv s
 fin : Fin_ s
 deep : s.deep ≤ 1000
 level : s.level ≤ 1000
theorem Okk.es {s a s' : Hg.Rd} (h : Okk s) (e : Hg.Rd.EStep s a) (g : Hg.Rd.Grow a s') (hf : Fin_ s') : Okk a :=
 ⟨e.inv h.inv, hf.of g, by rw [e.deep]; exact h.deep, by rw [e.level]; exact h.level⟩
theorem Okk.text {s : Hg.Rd} (h : Okk s) (k : Nat) : (s.text k).length ≤ 1000000 := by
 unfold Hg.Rd.text
 split
 ·
  simp
 ·
  split
  ·
   rename_i t ht
   split
   ·
    exact h.fin.txt t (List.mem_of_getElem? ht)
   ·
    simp
  ·
   simp
theorem enter_deep (s : Hg.Rd) : s.enter.deep = s.deep + 1 := by unfold Hg.Rd.enter; dsimp only; split <;> rfl
theorem enter_inv {s : Hg.Rd} (h : Hg.Rd.Inv s) : Hg.Rd.Inv s.enter := by
 unfold Hg.Rd.enter; dsimp only; split <;> exact Hg.Rd.inv_same h rfl rfl rfl rfl rfl rfl rfl (Nat.le_refl _)
theorem enter_level (s : Hg.Rd) : s.enter.level = s.level := by unfold Hg.Rd.enter; dsimp only; split <;> rfl
theorem Okk.enter {s s' : Hg.Rd} (h : Okk s) (hd : s.deep ≤ 999) (g : Hg.Rd.Grow s.enter s') (hf : Fin_ s') : Okk s.enter :=
 ⟨enter_inv h.inv, hf.of g, by rw [enter_deep]; omega, by rw [enter_level]; exact h.level⟩
end Go.Proofs.YtoelmnamlnbdhaaGreatDoor
