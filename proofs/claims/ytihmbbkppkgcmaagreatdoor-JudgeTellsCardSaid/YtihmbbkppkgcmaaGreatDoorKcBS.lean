/-
  Part of a proof: contracts of functions that the claim reaches, and plain lemmas.
-/
import Derived.Test.YtihmbbkppkgcmaaGreatDoorKcBR
import Derived.Lib.SmallJoins
set_option linter.all false
namespace Go.Proofs.YtihmbbkppkgcmaaGreatDoor
open Go.ChangeShapes Go.WideShapes Go.ChangeAt Go.ChangeMaps Go.WideMaps Go.WideElems Go.RowKit Go.Joins
theorem cellsPlan : Tryz.prog.cellsOf 41 = 4 := by kernel_rfl
section
variable {H : Type} {enc : TypeId × Value → H} {w : World} {base : Nat} {spare : Nat → Bool} {held : Bool}
def planD (k a : Nat) (nm : List UInt8) (raw : Bool) : DataW H := .agg [.lit (.int .u8 (k : Int)), .lit (.int .u16 (a : Int)), .lit (.string nm), .lit (.bool raw)]
set_option maxRecDepth 100000 in
theorem open_plan {r : Reach} {b0 : Nat} {v : Value} {d : DataW H} {p : List MemPlace} (hv : Value.okWide Tryz.prog w r b0 41 v) (h : DataW.Trod enc Tryz.prog w base spare held 41 v d p) :
 ∃ (k a : Nat) (nm : List UInt8) (raw : Bool), v = .agg #[.int .u8 (k : Int), .int .u16 (a : Int), strV nm, .bool raw] ∧ d = planD k a nm raw ∧ p = [] ∧ k ≤ 255 ∧ a ≤ 65535 ∧ nm.length ≤ maxLen := by
 obtain ⟨c0, c1, c2, c3, y0, y1, y2, y3, m, rfl, rfl, rfl, h0, h1, h2, h3⟩ := open_agg4 Tryz.underlying41 (by kernel_rfl) cellsPlan hv h
 obtain ⟨k, e0, rfl, wk⟩ := DataW.trod_int Tryz.underlying5 h0
 obtain ⟨a, e1, rfl, wa⟩ := DataW.trod_int Tryz.underlying39 h1
 obtain ⟨s, e2, rfl, hs⟩ := DataW.trod_string Tryz.underlying9 h2
 obtain ⟨b, e3, rfl⟩ := DataW.trod_bool Tryz.underlying4 h3
 simp at e0 e1 e2 e3
 subst e0; subst e1; subst e2; subst e3
 have hk := bounds_u8 wk
 have ha := bounds_u16 wa
 obtain ⟨k, rfl⟩ := Int.eq_ofNat_of_zero_le hk.1
 obtain ⟨a, rfl⟩ := Int.eq_ofNat_of_zero_le ha.1
 obtain ⟨⟨l⟩⟩ := s
 exact ⟨k, a, l, b, rfl, rfl, rfl, by omega, by omega, by simpa [ByteArray.size] using hs⟩
theorem wf_u8 {k : Nat} (h : k ≤ 255) : (Lit.int .u8 (k : Int)).wf = true := by
 simp [Lit.wf, IntKind.min, IntKind.max, IntKind.bits, IntKind.signed]; omega
theorem wf_u16 {k : Nat} (h : k ≤ 65535) : (Lit.int .u16 (k : Int)).wf = true := by
 simp [Lit.wf, IntKind.min, IntKind.max, IntKind.bits, IntKind.signed]; omega
set_option maxRecDepth 100000 in
theorem shut_plan {k a : Nat} {nm : List UInt8} {raw : Bool} (hk : k ≤ 255) (ha : a ≤ 65535) (hn : nm.length ≤ maxLen) :
 DataW.Trod enc Tryz.prog w base spare held 41 (.agg #[.int .u8 (k : Int), .int .u16 (a : Int), strV nm, .bool raw]) (planD k a nm raw) [] :=
 shut_agg4 (y0 := (.lit (.int .u8 (k : Int)), [])) (y1 := (.lit (.int .u16 (a : Int)), [])) (y2 := (.lit (.string nm), [])) (y3 := (.lit (.bool raw), [])) Tryz.underlying41 (by kernel_rfl) cellsPlan
  ⟨1, by simp [DataW.trod, Tryz.underlying5, wf_u8 hk]⟩ ⟨1, by simp [DataW.trod, Tryz.underlying39, wf_u16 ha]⟩ ⟨1, by simp [DataW.trod, Tryz.underlying9, ByteArray.size, hn]⟩ ⟨1, by simp [DataW.trod, Tryz.underlying4]⟩
theorem sized_plan {ts : List TypeId} {ds : List (DataW H)} (h : (DataW.weightsEach Tryz.prog ts ds).all (· ≤ reachBytes) = true) {j : Nat} {k a : Nat} {nm : List UInt8} {raw : Bool} (ht : ts[j]? = some 41) (hd : ds[j]? = some (planD k a nm raw)) : nm.length ≤ reachBytes := by
 have := List.all_eq_true.1 h _ (DataW.weights_mem_each ht hd nm.length (by simp [planD, DataW.weights, DataW.weightsEach, Tryz.underlying41]))
 simpa using this
end
end Go.Proofs.YtihmbbkppkgcmaaGreatDoor
