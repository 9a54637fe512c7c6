/-
  Part of a proof of CheckErrors: contracts of functions that the claim reaches, and plain lemmas.
-/
set_option linter.all false
namespace Hg
abbrev Str := List UInt8
structure Tok where
 kind : Nat
 text : Str
 pos : Nat
deriving Inhabited, DecidableEq
structure Node where
 kind : Nat
 name : Str
 num : Int
 type : Nat
 ref : Nat
 kids : List Nat
deriving Inhabited, DecidableEq
structure Row where
 id : Nat
 node : Node
deriving Inhabited, DecidableEq
def Node.zero : Node := ⟨0, [], 0, 0, 0, []⟩
def cls (c : UInt8) : Nat :=
 if (97 ≤ c.toNat ∧ c.toNat ≤ 122) ∨ (65 ≤ c.toNat ∧ c.toNat ≤ 90) ∨ c.toNat = 95 then 1
 else if 48 ≤ c.toNat ∧ c.toNat ≤ 57 then 2
 else if c.toNat = 32 ∨ c.toNat = 9 ∨ c.toNat = 10 then 3 else 0
def isPart (c : UInt8) : Bool := cls c == 1 || cls c == 2
def inL (l : List Str) (s : Str) : Bool := l.any (· == s)
def r8name (s : Str) : Bool :=
 match s with
 | [] => false
 | c :: _ => s.length ≤ 64 && cls c == 1 && s.all isPart
def valOf (s : Str) : Nat := s.foldl (fun n c => 10 * n + (c.toNat - 48)) 0
def r8number (s : Str) : Int :=
 match s with
 | [] => -1
 | c :: r =>
   if 19 < s.length ∨ (c.toNat = 48 ∧ r ≠ []) then -1
   else if s.all (fun c => cls c == 2) then (if 9223372036854775807 < valOf s then -1 else (valOf s : Int)) else -1
def wBool : Str := [98, 111, 111, 108]
def wDo : Str := [100, 111]
def wElse : Str := [101, 108, 115, 101]
def wFalse : Str := [102, 97, 108, 115, 101]
def wFunc : Str := [102, 117, 110, 99]
def wIf : Str := [105, 102]
def wInt : Str := [105, 110, 116]
def wLet : Str := [108, 101, 116]
def wModule : Str := [109, 111, 100, 117, 108, 101]
def wPrint : Str := [112, 114, 105, 110, 116]
def wRead : Str := [114, 101, 97, 100]
def wReturn : Str := [114, 101, 116, 117, 114, 110]
def wTrue : Str := [116, 114, 117, 101]
def wWhile : Str := [119, 104, 105, 108, 101]
def words : List Str := [wBool, wDo, wElse, wFalse, wFunc, wIf, wInt, wLet, wModule, wPrint, wRead, wReturn, wTrue, wWhile]
def signs : List Str := [[40], [41], [123], [125], [46], [44], [59], [61], [33], [43], [45], [42], [47], [37], [60], [60, 61], [62], [62, 61], [61, 61], [33, 61], [38, 38], [124, 124]]
def r8scan : Nat → Nat → Str → List Tok → Option (List Tok)
 | 0, _, _, acc => some acc
 | f + 1, i, s, acc =>
   match s with
   | [] => some acc
   | c :: r =>
     if cls c = 3 then r8scan f (i + 1) r acc
     else if c.toNat = 35 then
      let k := (s.takeWhile (fun b => b.toNat != 10)).length
      r8scan f (i + k) (s.drop k) acc
     else if 0 < cls c then
      let w := s.takeWhile isPart
      let nx := fun t => r8scan f (i + w.length) (s.drop w.length) (acc ++ [t])
      if inL words w then nx ⟨3, w, i⟩
      else if r8name w then nx ⟨1, w, i⟩
      else if 0 ≤ r8number w then nx ⟨2, w, i⟩
      else none
     else
      let w := if inL signs (s.take 2) ∧ 2 ≤ s.length then s.take 2 else s.take 1
      if inL signs w then r8scan f (i + w.length) (s.drop w.length) (acc ++ [⟨4, w, i⟩]) else none
def r8all (s : Str) : Option (List Tok) := r8scan s.length 0 s []
structure Bound where
 name : Str
 id : Nat
 deep : Nat
deriving Inhabited, DecidableEq
structure Rd where
 L : List Tok
 at_ : Nat
 deep : Nat
 bad : Bool
 rows : List Row
 names : Nat
 mods : List Str
 funcs : List Str
 ids : List Nat
 calls : List Nat
 wants : List Str
 used : List Str
 seen : List Bound
 level : Nat
deriving Inhabited, DecidableEq
namespace Rd
def fault (r : Rd) (e : Nat) : Rd := if r.names = 0 ∧ r.bad = false then { r with names := e } else r
def addKid (l : List Row) (under id : Nat) : List Row :=
 l.modify under fun x => { x with node := { x.node with kids := x.node.kids ++ [id] } }
def node (r : Rd) (under : Nat) (n : Node) : Rd :=
 let id := r.rows.length + 1
 let rows := r.rows ++ [⟨id, n⟩]
 { r with rows := if 1 < id then addKid rows under id else rows }
def text (r : Rd) (kind : Nat) : Str :=
 if r.bad then [] else
  match r.L[r.at_]? with
  | some t => if t.kind = kind then t.text else []
  | none => []
def next (r : Rd) (s : Str) : Bool := r.text 3 == s || r.text 4 == s
def step (r : Rd) : Rd := { r with at_ := r.at_ + 1 }
def setBad (r : Rd) : Rd := { r with bad := true }
def need (r : Rd) (s : Str) : Rd := if r.next s then r.step else r.setBad
def name (r : Rd) : Rd := if r.text 1 = [] then r.setBad else r.step
def typed (r : Rd) : Nat × Rd := if r.next wInt then (1, r.step) else (2, r.need wBool)
def setType (r : Rd) (k t : Nat) : Rd := { r with rows := r.rows.modify k fun x => { x with node := { x.node with type := t } } }
def setRef (r : Rd) (k id : Nat) : Rd := { r with rows := r.rows.modify k fun x => { x with node := { x.node with ref := id } } }
def setNum (r : Rd) (k : Nat) (n : Int) : Rd := { r with rows := r.rows.modify k fun x => { x with node := { x.node with num := n } } }
def idAt (r : Rd) (k : Nat) : Nat := ((r.rows[k]?).map (·.id)).getD 0
def declare (r : Rd) (s : Str) (k : Nat) : Rd :=
 let r := if inL r.used s then r.fault 10 else r
 { r with used := r.used ++ [s], seen := r.seen ++ [⟨s, r.idAt k, r.level⟩] }
def findIn (l : List Bound) (s : Str) : Option Nat := (l.reverse.find? (fun b => b.name == s)).map (·.id)
def find (r : Rd) (s : Str) : Nat × Rd :=
 match findIn r.seen s with
 | some id => (id, r)
 | none => (0, r.fault 9)
def enter (r : Rd) : Rd :=
 let r := { r with deep := r.deep + 1 }
 if 90 < r.deep then r.setBad else r
def leave (r : Rd) : Rd := { r with deep := r.deep - 1 }
end Rd
end Hg
namespace Hg
namespace Rd
def ops : List Str := [[43], [45], [42], [47], [37], [60], [60, 61], [62], [62, 61], [61, 61], [33, 61], [38, 38], [124, 124]]
def opOf (s : Str) : Nat := match ops.findIdx? (· == s) with | some i => i + 1 | none => 0
def nd (kind : Nat) : Node := ⟨kind, [], 0, 0, 0, []⟩
def ndNamed (kind : Nat) (s : Str) : Node := ⟨kind, s, 0, 0, 0, []⟩
def ndNum (kind : Nat) (n : Int) : Node := ⟨kind, [], n, 0, 0, []⟩
def shut (r : Rd) : Rd := { r with seen := r.seen.filter (fun b => b.deep < r.level), level := r.level - 1 }
mutual
def expr : Nat → Rd → Nat → Option Rd
 | 0, _, _ => none
 | f + 1, r, under =>
   if r.text 2 ≠ [] then some (r.step.node under (ndNum 13 (r8number (r.text 2))))
   else if r.text 1 ≠ [] then
    let s := r.text 1
    let r := r.step
    if r.next [46] then call f r under s
    else
     let n := r.rows.length
     let r := r.node under (nd 15)
     some ((r.find s).2.setRef n (r.find s).1)
   else if r.next wTrue then some (r.step.node under (ndNum 14 1))
   else if r.next wFalse then some (r.step.node under (nd 14))
   else if r.next wRead then some (r.step.node under (nd 20))
   else if r.next [33] ∨ r.next [45] then
    let kind := if r.next [33] then 16 else 17
    let n := r.rows.length
    let r := (r.step.node under (nd kind)).enter
    if r.bad then some r.leave else (expr f r n).map leave
   else if r.next [40] then
    let n := r.rows.length
    let r := (r.step.node under (nd 18)).enter
    if r.bad then some r.leave else
     match expr f r n with
     | none => none
     | some r =>
       let op := opOf (r.text 4)
       let r := r.setNum n op
       let r := if op = 0 then r.setBad else r
       match expr f r.step n with
       | none => none
       | some r => some (r.need [41]).leave
   else some r.setBad
def call : Nat → Rd → Nat → Str → Option Rd
 | 0, _, _, _ => none
 | f + 1, r, under, mod =>
   let n := r.rows.length
   let r := (r.node under (nd 19)).need [46]
   let s := r.text 1
   let r := r.name
   let r := { r with calls := r.calls ++ [r.idAt n], wants := r.wants ++ [mod ++ [32] ++ s] }
   let r := r.enter
   if r.bad then some r.leave else (args f true (r.need [40]) n).map leave
def args : Nat → Bool → Rd → Nat → Option Rd
 | 0, _, _, _ => none
 | f + 1, first, r, n =>
   if r.bad then some r
   else if r.next [41] then some r.step
   else
    match expr f (if first then r else r.need [44]) n with
    | none => none
    | some r => args f false r n
end
mutual
def stmt : Nat → Rd → Nat → Option Rd
 | 0, _, _ => none
 | f + 1, r, under =>
   let n := r.rows.length
   if r.next wLet then
    let r := r.step
    let s := r.text 1
    let r := r.name.node under (ndNamed 6 s)
    let t := r.typed
    let r := (t.2.setType n t.1).need [61]
    match expr f r n with
    | none => none
    | some r => some ((r.declare s n).need [59])
   else if r.next wIf then
    match expr f (r.step.node under (nd 8)) n with
    | none => none
    | some r =>
      match block f r n with
      | none => none
      | some r => block f (r.need wElse) n
   else if r.next wWhile then
    match expr f (r.step.node under (nd 9)) n with
    | none => none
    | some r => block f r n
   else if r.next wPrint then
    (expr f (r.step.node under (nd 11)) n).map (·.need [59])
   else if r.next wDo then
    let r := r.step.node under (nd 12)
    (call f r.name n (r.text 1)).map (·.need [59])
   else
    let s := r.text 1
    let r := r.name.node under (nd 7)
    let r := ((r.find s).2.setRef n (r.find s).1).need [61]
    (expr f r n).map (·.need [59])
def block : Nat → Rd → Nat → Option Rd
 | 0, _, _ => none
 | f + 1, r, under =>
   let n := r.rows.length
   let r := r.node under (nd 5)
   let r := ({ r with level := r.level + 1 } : Rd).enter
   if r.bad then some r.leave.shut else (stmts f (r.need [123]) n).map (fun r => r.leave.shut)
def stmts : Nat → Rd → Nat → Option Rd
 | 0, _, _ => none
 | f + 1, r, n =>
   if r.bad then some r
   else if r.next [125] then some r.step
   else
    match stmt f r n with
    | none => none
    | some r => stmts f r n
end
def params : Nat → Bool → Rd → Nat → Option Rd
 | 0, _, _, _ => none
 | f + 1, first, r, k =>
   if r.bad then some r
   else if r.next [41] then some r.step
   else
    let r := if first then r else r.need [44]
    let x := r.text 1
    let p := r.rows.length
    let r := r.name.node k (ndNamed 4 x)
    let t := r.typed
    params f false ((t.2.setType p t.1).declare x p) k
def body : Nat → Rd → Nat → Option Rd
 | 0, _, _ => none
 | f + 1, r, n =>
   if r.bad ∨ r.next wReturn then some r
   else
    match stmt f r n with
    | none => none
    | some r => body f r n
def func (f : Nat) (r : Rd) (under : Nat) (mod : Str) : Option Rd :=
 let r := r.need wFunc
 let s := r.text 1
 let r := r.name
 let r := if inL r.funcs (mod ++ [32] ++ s) then r.fault 10 else r
 let k := r.rows.length
 let r := r.node under (ndNamed 3 s)
 let r := { r with funcs := r.funcs ++ [mod ++ [32] ++ s], ids := r.ids ++ [r.idAt k], used := [], seen := [], level := 0 }
 match params f true (r.need [40]) k with
 | none => none
 | some r =>
   let t := r.typed
   let r := t.2.setType k t.1
   let b := r.rows.length
   let r := (r.node k (nd 5)).need [123]
   match body f r b with
   | none => none
   | some r =>
     let r := r.need wReturn
     let n := r.rows.length
     match expr f (r.node b (nd 10)) n with
     | none => none
     | some r => some ((r.need [59]).need [125])
end Rd
end Hg
namespace Hg
def atI (l : List Row) (id : Nat) : Option Nat := l.findIdx? (fun r => r.id == id)
def parentOf : List Row → Nat → Nat × Nat
 | [], _ => (0, 0)
 | r :: rs, id => match r.node.kids.findIdx? (· == id) with
   | some k => (r.id, k)
   | none => parentOf rs id
def nodeOf (l : List Row) (id : Nat) : Node := match l.find? (fun r => r.id == id) with | some r => r.node | none => Node.zero
def isIn (l : List Nat) (x : Nat) : Bool := l.contains x
end Hg
namespace Hg
section
variable {f i : Nat} {c : UInt8} {r : Str} {acc : List Tok}
end
end Hg
namespace Hg
namespace Rd
structure Grow (s s' : Rd) : Prop where
 L : s'.L = s.L
 at_ : s.at_ ≤ s'.at_
 bad : s.bad = true → s'.bad = true
 rows : ∀ (k : Nat) (r : Row), s.rows[k]? = some r → ∃ r', s'.rows[k]? = some r' ∧ r'.id = r.id ∧ r.node.kids.length ≤ r'.node.kids.length
 len : s.rows.length ≤ s'.rows.length
theorem Grow.refl (s : Rd) : Grow s s := ⟨rfl, Nat.le_refl _, id, fun k r h => ⟨r, h, rfl, Nat.le_refl _⟩, Nat.le_refl _⟩
theorem Grow.trans {a b c : Rd} (h : Grow a b) (k : Grow b c) : Grow a c :=
 ⟨k.L.trans h.L, Nat.le_trans h.at_ k.at_, fun hb => k.bad (h.bad hb), fun i r hr => by
  obtain ⟨r1, h1, h2, h3⟩ := h.rows i r hr
  obtain ⟨r2, k1, k2, k3⟩ := k.rows i r1 h1
  exact ⟨r2, k1, k2.trans h2, Nat.le_trans h3 k3⟩, Nat.le_trans h.len k.len⟩
structure Inv (s : Rd) : Prop where
 mods : s.mods.length ≤ s.rows.length
 funcs : s.funcs.length ≤ s.rows.length
 ids : s.ids.length = s.funcs.length
 calls : s.calls.length ≤ s.rows.length
 wants : s.wants.length = s.calls.length
 used : s.used.length ≤ s.rows.length
 seen : s.seen.length ≤ s.used.length
 kids : ∀ (k : Nat) (r : Row), s.rows[k]? = some r → r.node.kids.length ≤ s.rows.length
 rid : ∀ (k : Nat) (r : Row), s.rows[k]? = some r → r.id = k + 1
 callr : ∀ c ∈ s.calls, 0 < c ∧ c ≤ s.rows.length
section
variable {s : Rd}
theorem inv_same {s' : Rd} (h : Inv s) (h1 : s'.rows = s.rows) (h2 : s'.mods = s.mods) (h3 : s'.funcs = s.funcs) (h4 : s'.ids = s.ids) (h5 : s'.calls = s.calls) (h6 : s'.wants = s.wants) (h7 : s'.used = s.used) (h8 : s'.seen.length ≤ s.seen.length) : Inv s' :=
 ⟨by rw [h1, h2]; exact h.mods, by rw [h1, h3]; exact h.funcs, by rw [h3, h4]; exact h.ids, by rw [h1, h5]; exact h.calls, by rw [h5, h6]; exact h.wants, by rw [h1, h7]; exact h.used, by rw [h7]; exact Nat.le_trans h8 h.seen,
  by rw [h1]; exact h.kids, by rw [h1]; exact h.rid, by rw [h1, h5]; exact h.callr⟩
end
structure EStep (s s' : Rd) : Prop where
 grow : Grow s s'
 inv : Inv s → Inv s'
 deep : s'.deep = s.deep
 level : s'.level = s.level
 used : s'.used = s.used
 seen : s'.seen = s.seen
 mods : s'.mods = s.mods
 funcs : s'.funcs = s.funcs
 ids : s'.ids = s.ids
theorem EStep.refl (s : Rd) : EStep s s := ⟨Grow.refl s, id, rfl, rfl, rfl, rfl, rfl, rfl, rfl⟩
theorem EStep.trans {a b c : Rd} (h : EStep a b) (k : EStep b c) : EStep a c :=
 ⟨h.grow.trans k.grow, fun x => k.inv (h.inv x), k.deep.trans h.deep, k.level.trans h.level, k.used.trans h.used, k.seen.trans h.seen, k.mods.trans h.mods, k.funcs.trans h.funcs, k.ids.trans h.ids⟩
end Rd
end Hg
namespace Hg
namespace Rd
end Rd
end Hg
namespace Hg
namespace Rd
structure SStep (s s' : Rd) : Prop where
 grow : Grow s s'
 inv : Inv s → Inv s'
 deep : s'.deep = s.deep
 level : s'.level = s.level
 mods : s'.mods = s.mods
 funcs : s'.funcs = s.funcs
 ids : s'.ids = s.ids
theorem EStep.s {a b : Rd} (h : EStep a b) : SStep a b := ⟨h.grow, h.inv, h.deep, h.level, h.mods, h.funcs, h.ids⟩
theorem SStep.refl (s : Rd) : SStep s s := (EStep.refl s).s
theorem SStep.trans {a b c : Rd} (h : SStep a b) (k : SStep b c) : SStep a c :=
 ⟨h.grow.trans k.grow, fun x => k.inv (h.inv x), k.deep.trans h.deep, k.level.trans h.level, k.mods.trans h.mods, k.funcs.trans h.funcs, k.ids.trans h.ids⟩
def head (s : Rd) (u : Nat) : Rd := ({ (s.node u (nd 5)) with level := (s.node u (nd 5)).level + 1 } : Rd)
end Rd
end Hg
namespace Hg
namespace Rd
structure FStep (s s' : Rd) : Prop where
 grow : Grow s s'
 inv : Inv s → Inv s'
 deep : s'.deep = s.deep
 mods : s'.mods = s.mods
theorem SStep.f {a b : Rd} (h : SStep a b) : FStep a b := ⟨h.grow, h.inv, h.deep, h.mods⟩
theorem FStep.refl (s : Rd) : FStep s s := (SStep.refl s).f
theorem FStep.trans {a b c : Rd} (h : FStep a b) (k : FStep b c) : FStep a c := ⟨h.grow.trans k.grow, fun x => k.inv (h.inv x), k.deep.trans h.deep, k.mods.trans h.mods⟩
end Rd
end Hg
namespace Hg
namespace Rd
end Rd
end Hg
namespace Hg
namespace Rd
def mu (s : Rd) : Nat := if s.bad = true then 0 else s.L.length - s.at_ + 1
def Q (d e : Nat) (s s' : Rd) : Prop := s'.mu ≤ s.mu - d ∧ s'.rows.length ≤ s.rows.length + e ∧ s'.at_ + 2 * s'.mu ≤ s.at_ + 2 * s.mu
def W (d e : Nat) (s s' : Rd) : Prop := s'.mu ≤ s.mu - d ∧ s'.rows.length + 3 * s'.mu ≤ s.rows.length + 3 * s.mu + e ∧ s'.at_ + 2 * s'.mu ≤ s.at_ + 2 * s.mu
end Rd
end Hg
namespace Hg
def kRel (p c : Nat) : Prop := (p = 1 ∧ c = 2) ∨ (p = 2 ∧ c = 3) ∨ (3 ≤ p ∧ 4 ≤ c)
structure Tr (rows : List Row) : Prop where
 rid : ∀ (k : Nat) (r : Row), rows[k]? = some r → r.id = k + 1
 up : ∀ (k : Nat) (r : Row), rows[k]? = some r → ∀ c ∈ r.node.kids, k + 1 < c ∧ c ≤ rows.length
 perm : (rows.flatMap (fun r => r.node.kids)).Perm (List.range' 2 (rows.length - 1))
 kind : ∀ (k : Nat) (r : Row), rows[k]? = some r → ∀ c ∈ r.node.kids, ∀ r', rows[c - 1]? = some r' → kRel r.node.kind r'.node.kind
 root : ∀ r, rows[0]? = some r → r.node.kind = 1
namespace Rd
structure KS (s s' : Rd) : Prop where
 kinds : ∀ (k : Nat) (r : Row), s.rows[k]? = some r → ∃ r', s'.rows[k]? = some r' ∧ r'.node.kind = r.node.kind
 tr : Tr s.rows → Tr s'.rows
theorem KS.refl (s : Rd) : KS s s := ⟨fun _ r h => ⟨r, h, rfl⟩, id⟩
theorem KS.trans {a b c : Rd} (h : KS a b) (k : KS b c) : KS a c :=
 ⟨fun i r hr => by
  obtain ⟨r1, h1, h2⟩ := h.kinds i r hr
  obtain ⟨r2, k1, k2⟩ := k.kinds i r1 h1
  exact ⟨r2, k1, k2.trans h2⟩, fun x => k.tr (h.tr x)⟩
def At (s : Rd) (u : Nat) (p : Nat → Prop) : Prop := ∃ r, s.rows[u]? = some r ∧ p r.node.kind
theorem At.keep {s s' : Rd} {u : Nat} {p : Nat → Prop} (h : At s u p) (k : KS s s') : At s' u p := by
 obtain ⟨r, h1, h2⟩ := h
 obtain ⟨r', k1, k2⟩ := k.kinds u r h1
 exact ⟨r', k1, by rw [k2]; exact h2⟩
theorem At.imp {s : Rd} {u : Nat} {p q : Nat → Prop} (h : At s u p) (k : ∀ n, p n → q n) : At s u q := by
 obtain ⟨r, h1, h2⟩ := h
 exact ⟨r, h1, k _ h2⟩
theorem At.ne {s : Rd} {u : Nat} {p : Nat → Prop} (h : At s u p) : u ≠ s.rows.length := by
 obtain ⟨r, h1, _⟩ := h
 have := (List.getElem?_eq_some_iff.1 h1).1
 omega
end Rd
end Hg
namespace Hg
end Hg
namespace Hg
def tkAt (L : List Tok) (k : Nat) : Tok := L.getD k ⟨0, [], 0⟩
theorem tkAt_get {L : List Tok} {k : Nat} (h : k < L.length) : L[k]? = some (tkAt L k) := by simp [tkAt, h]
def tkIs (L : List Tok) (k : Nat) (s : List UInt8) : Bool := (tkAt L k).text == s && (decide ((tkAt L k).kind = 3) || decide ((tkAt L k).kind = 4))
def tkB (L : List Tok) (k : Nat) (s : List UInt8) : Bool := decide (k < L.length) && tkIs L k s
theorem tkB_lt {L : List Tok} {k : Nat} {s : List UInt8} (h : tkB L k s = true) : k < L.length := by simp [tkB] at h; exact h.1
theorem tkB_is {L : List Tok} {k : Nat} {s : List UInt8} (h : tkB L k s = true) : tkIs L k s = true := by simp [tkB] at h; exact h.2
inductive GT where
 | mk (b : Nat) (nd : Node) (md tt : Str) (ks : List GT)
namespace GT
def b : GT → Nat | .mk b _ _ _ _ => b
def nd : GT → Node | .mk _ n _ _ _ => n
def md : GT → Str | .mk _ _ m _ _ => m
def tt : GT → Str | .mk _ _ _ t _ => t
def ks : GT → List GT | .mk _ _ _ _ k => k
mutual
def subs : GT → List GT | .mk b nd md tt ks => .mk b nd md tt ks :: subsL ks
def subsL : List GT → List GT | [] => [] | t :: ts => subs t ++ subsL ts
end
mutual
def map (f : Nat → Nat) : GT → GT | .mk b nd md tt ks => .mk (f b) nd md tt (mapL f ks)
def mapL (f : Nat → Nat) : List GT → List GT | [] => [] | t :: ts => map f t :: mapL f ts
end
abbrev era (t : GT) : GT := t.map fun _ => 0
abbrev eraL (l : List GT) : List GT := mapL (fun _ => 0) l
end GT
def ndK (kind : Nat) : Node := ⟨kind, [], 0, 0, 0, []⟩
def gmk (kind : Nat) (num : Int) (tt : Str) (ks : List GT) : GT := .mk 0 ⟨kind, [], num, 0, 0, []⟩ [] tt ks
def digit (s : Str) : Option Nat := match s with | [c] => if 48 ≤ c.toNat ∧ c.toNat ≤ 57 then some (c.toNat - 48) else none | _ => none
theorem digit_some {s : Str} {n : Nat} (h : digit s = some n) : n < 10 ∧ s = [UInt8.ofNat (48 + n)] := by
 unfold digit at h
 split at h
 ·
  next c =>
  split at h
  ·
   next hc =>
   injection h with h
   refine ⟨by omega, ?_⟩
   congr 1
   apply UInt8.toNat.inj
   rw [UInt8.toNat_ofNat']
   omega
  ·
   cases h
 ·
  cases h
def signs13 : List Str := [[43], [45], [42], [47], [37], [60], [60, 61], [62], [62, 61], [61, 61], [33, 61], [38, 38], [124, 124]]
def signNo (s : Str) : Nat := match signs13.findIdx? (· == s) with | some k => k + 1 | none => 0
def gMore (L : List Tok) (item : Nat → Option (GT × Nat)) : Nat → Nat → Option (List GT × Nat)
 | 0, _ => none
 | n + 1, k => match item k with
   | none => none
   | some (a, k1) =>
     if tkB L k1 [41] then some ([a], k1 + 1)
     else if tkB L k1 [44] then match gMore L item n (k1 + 1) with
      | none => none
      | some (l, k2) => some (a :: l, k2)
     else none
def gList (L : List Tok) (item : Nat → Option (GT × Nat)) (k : Nat) : Option (List GT × Nat) :=
 if tkB L k [41] then some ([], k + 1) else gMore L item L.length k
def gUntil (L : List Tok) (stop : Str) (item : Nat → Option (GT × Nat)) : Nat → Nat → Option (List GT × Nat)
 | 0, _ => none
 | n + 1, k =>
   if tkB L k stop then some ([], k)
   else if L.length ≤ k then none
   else match item k with
   | none => none
   | some (a, k1) => match gUntil L stop item n k1 with
     | none => none
     | some (l, k2) => some (a :: l, k2)
def gC (L : List Tok) (item : Nat → Option (GT × Nat)) (d : Nat) (mod : Str) (k : Nat) : Option (GT × Nat) :=
 if tkB L k [46] && (decide (k + 1 < L.length) && (decide ((tkAt L (k + 1)).kind = 1) && (decide (d < 60) && tkB L (k + 2) [40]))) then
  match gList L item (k + 3) with
  | none => none
  | some (l, k2) => some (.mk 0 (ndK 19) mod (tkAt L (k + 1)).text l, k2)
 else none
def gE (L : List Tok) : Nat → Nat → Nat → Option (GT × Nat)
 | 0, _, _ => none
 | f + 1, d, k =>
   if L.length ≤ k then none
   else if (tkAt L k).kind = 2 then match digit (tkAt L k).text with
    | some n => some (gmk 13 n [] [], k + 1)
    | none => none
   else if (tkAt L k).kind = 1 then
    if L.length ≤ k + 1 then none
    else if tkIs L (k + 1) [46] then gC L (gE L f (d + 1)) d (tkAt L k).text (k + 1)
    else some (gmk 15 0 (tkAt L k).text [], k + 1)
   else if tkIs L k wTrue then some (gmk 14 1 [] [], k + 1)
   else if tkIs L k wFalse then some (gmk 14 0 [] [], k + 1)
   else if tkIs L k wRead then none
   else if tkIs L k [33] then none
   else if tkIs L k [45] then none
   else if tkIs L k [40] then
    if d < 60 then match gE L f (d + 1) (k + 1) with
     | none => none
     | some (a, k1) =>
       if L.length ≤ k1 then none
       else if signNo (tkAt L k1).text = 0 then none
       else match gE L f (d + 1) (k1 + 1) with
        | none => none
        | some (b, k2) => if tkB L k2 [41] then some (gmk 18 (signNo (tkAt L k1).text) [] [a, b], k2 + 1) else none
    else none
   else none
def gType (L : List Tok) (k : Nat) : Option Nat := if tkB L k wInt then some 1 else if tkB L k wBool then some 2 else none
def nameB (L : List Tok) (k : Nat) : Bool := decide (k < L.length) && decide ((tkAt L k).kind = 1)
def gB (L : List Tok) (item : Nat → Option (GT × Nat)) (d k : Nat) : Option (GT × Nat) :=
 if decide (d < 60) && tkB L k [123] then match gUntil L [125] item L.length (k + 1) with
  | none => none
  | some (l, k2) => some (gmk 5 0 [] l, k2 + 1)
 else none
def gS (L : List Tok) : Nat → Nat → Nat → Option (GT × Nat)
 | 0, _, _ => none
 | f + 1, d, k =>
   if tkB L k wLet then
    if nameB L (k + 1) then match gType L (k + 2) with
     | none => none
     | some t => if tkB L (k + 3) [61] then match gE L f d (k + 4) with
       | none => none
       | some (e, k1) => if tkB L k1 [59] then some (.mk 0 ⟨6, (tkAt L (k + 1)).text, 0, t, 0, []⟩ [] [] [e], k1 + 1) else none
       else none
    else none
   else if tkB L k wIf then match gE L f d (k + 1) with
    | none => none
    | some (e, k1) => match gB L (gS L f (d + 1)) d k1 with
      | none => none
      | some (b, k2) => if tkB L k2 wElse then match gB L (gS L f (d + 1)) d (k2 + 1) with
        | none => none
        | some (c, k3) => some (gmk 8 0 [] [e, b, c], k3)
        else none
   else if tkB L k wWhile then match gE L f d (k + 1) with
    | none => none
    | some (e, k1) => match gB L (gS L f (d + 1)) d k1 with
      | none => none
      | some (b, k2) => some (gmk 9 0 [] [e, b], k2)
   else if tkB L k wPrint then none
   else if tkB L k wDo then
    if nameB L (k + 1) then match gC L (gE L f (d + 1)) d (tkAt L (k + 1)).text (k + 2) with
     | none => none
     | some (c, k1) => if tkB L k1 [59] then some (gmk 12 0 [] [c], k1 + 1) else none
    else none
   else if nameB L k && tkB L (k + 1) [61] then match gE L f d (k + 2) with
    | none => none
    | some (e, k1) => if tkB L k1 [59] then some (gmk 7 0 (tkAt L k).text [e], k1 + 1) else none
   else none
def gPar (L : List Tok) (k : Nat) : Option (GT × Nat) :=
 if nameB L k then match gType L (k + 1) with
  | none => none
  | some t => some (.mk 0 ⟨4, (tkAt L k).text, 0, t, 0, []⟩ [] [] [], k + 2)
 else none
def gF (L : List Tok) (f k : Nat) : Option (GT × Nat) :=
 if tkB L k wFunc && (nameB L (k + 1) && tkB L (k + 2) [40]) then match gList L (gPar L) (k + 3) with
  | none => none
  | some (ps, k1) => match gType L k1 with
    | none => none
    | some t => if tkB L (k1 + 1) [123] then match gUntil L wReturn (gS L f 0) L.length (k1 + 2) with
      | none => none
      | some (ss, k2) => match gE L f 0 (k2 + 1) with
        | none => none
        | some (e, k3) => if tkB L k3 [59] && tkB L (k3 + 1) [125] then
         some (.mk 0 ⟨3, (tkAt L (k + 1)).text, 0, t, 0, []⟩ [] [] (ps ++ [gmk 5 0 [] (ss ++ [gmk 10 0 [] [e]])]), k3 + 2)
          else none
      else none
 else none
def gMod (L : List Tok) (f k : Nat) : Option (GT × Nat) :=
 if tkB L k wModule && (nameB L (k + 1) && tkB L (k + 2) [123]) then match gUntil L [125] (gF L f) L.length (k + 3) with
  | none => none
  | some (l, k1) => some (.mk 0 ⟨2, (tkAt L (k + 1)).text, 0, 0, 0, []⟩ [] [] l, k1 + 1)
 else none
def gMods (L : List Tok) (f : Nat) : Nat → Nat → Option (List GT)
 | 0, _ => none
 | n + 1, k => if L.length ≤ k then some [] else match gMod L f k with
   | none => none
   | some (m, k1) => match gMods L f n k1 with
     | none => none
     | some l => some (m :: l)
def gProg (L : List Tok) : Option GT := (gMods L 40 L.length 0).map fun l => gmk 1 0 [] l
mutual
def num (n : Nat) : GT → GT × Nat | .mk _ nd md tt ks => let r := numL (n + 1) ks; (.mk n nd md tt r.1, r.2)
def numL (n : Nat) : List GT → List GT × Nat
 | [] => ([], n)
 | t :: ts => let r := num n t; let q := numL r.2 ts; (r.1 :: q.1, q.2)
end
structure NmSt where
 used : List Str
 scope : List (List (Str × Nat))
 refs : List (Nat × Nat)
 calls : List GT
def inScope (l : List (Str × Nat)) (s : Str) : Option Nat := (l.find? (·.1 == s)).map (·.2)
def findVar : List (List (Str × Nat)) → Str → Option Nat
 | [], _ => none
 | l :: ls, s => match inScope l s with | some b => some b | none => findVar ls s
def NmSt.declare (σ : NmSt) (t : GT) : Except Nat NmSt :=
 if t.nd.name ∈ σ.used then .error 1
 else match σ.scope with
 | [] => .error 0
 | l :: ls => .ok { σ with used := t.nd.name :: σ.used, scope := ((t.nd.name, t.b) :: l) :: ls }
mutual
def nVisit (σ : NmSt) : GT → Except Nat NmSt
 | .mk b nd md tt ks =>
   let r : Except Nat NmSt :=
    if nd.kind = 7 ∨ nd.kind = 15 then match findVar σ.scope tt with
     | none => .error 2
     | some v => .ok { σ with refs := (b, v) :: σ.refs }
    else if nd.kind = 19 then .ok { σ with calls := σ.calls ++ [.mk b nd md tt ks] }
    else if nd.kind = 5 then .ok { σ with scope := [] :: σ.scope }
    else .ok σ
   match r with
   | .error e => .error e
   | .ok σ1 => match nVisitL σ1 ks with
     | .error e => .error e
     | .ok σ2 => if nd.kind = 5 then .ok { σ2 with scope := σ2.scope.drop 1 }
       else if nd.kind = 6 then σ2.declare (.mk b nd md tt ks) else .ok σ2
def nVisitL (σ : NmSt) : List GT → Except Nat NmSt
 | [] => .ok σ
 | t :: ts => match nVisit σ t with
   | .error e => .error e
   | .ok σ1 => nVisitL σ1 ts
end
def nKids (σ : NmSt) : List GT → Except Nat NmSt
 | [] => .ok σ
 | k :: ks => match (if k.nd.kind = 4 then σ.declare k else nVisit σ k) with
   | .error e => .error e
   | .ok σ1 => nKids σ1 ks
abbrev Funs := List ((Str × Str) × Nat)
def nFunc (fs : Funs) (σ : NmSt) (mod : Str) (f : GT) : Except Nat (Funs × NmSt) :=
 if (fs.find? (·.1 == (mod, f.nd.name))).isSome then .error 1
 else match nKids { σ with used := [], scope := [[]] } f.ks with
  | .error e => .error e
  | .ok σ1 => .ok (((mod, f.nd.name), f.b) :: fs, σ1)
def nFuncs (fs : Funs) (σ : NmSt) (mod : Str) : List GT → Except Nat (Funs × NmSt)
 | [] => .ok (fs, σ)
 | f :: l => match nFunc fs σ mod f with
   | .error e => .error e
   | .ok (fs1, σ1) => nFuncs fs1 σ1 mod l
def nMods (ms : List Str) (fs : Funs) (σ : NmSt) : List GT → Except Nat (Funs × NmSt)
 | [] => .ok (fs, σ)
 | m :: l => if m.nd.name ∈ ms then .error 1 else match nFuncs fs σ m.nd.name m.ks with
   | .error e => .error e
   | .ok (fs1, σ1) => nMods (m.nd.name :: ms) fs1 σ1 l
def nCalls (fs : Funs) (refs : List (Nat × Nat)) : List GT → Except Nat (List (Nat × Nat))
 | [] => .ok refs
 | c :: l => match fs.find? (·.1 == (c.md, c.tt)) with
   | none => .error 2
   | some (_, b) => nCalls fs ((c.b, b) :: refs) l
def nAll (t : GT) : Except Nat (List (Nat × Nat)) := match nMods [] [] ⟨[], [], [], []⟩ t.ks with
 | .error e => .error e
 | .ok (fs, σ) => nCalls fs σ.refs σ.calls
def refOf (refs : List (Nat × Nat)) (i : Nat) : Nat := ((refs.find? (·.1 == i)).map (·.2)).getD 0
def layRows (refs : List (Nat × Nat)) (t : GT) : List Row := t.subs.map fun s => ⟨s.b, { s.nd with ref := refOf refs s.b, kids := s.ks.map GT.b }⟩
def gParse (s : Str) : Except Nat (List Row) := match r8all s with
 | none => .error 0
 | some L => match gProg L with
   | none => .error 0
   | some t => match nAll (num 1 t).1 with
     | .error e => .error e
     | .ok refs => .ok (layRows refs (num 1 t).1)
end Hg
namespace Hg
def rowAt (l : List Row) (k : Nat) : Row := l.getD k default
def kidsAt (l : List Row) (k : Nat) : List Nat := (rowAt l k).node.kids
def walkGo (l : List Row) : Nat → List Nat → List Nat → Option (List Nat)
 | 0, _, _ => none
 | _ + 1, [], out => some out
 | f + 1, i :: wait, out =>
   match atI l i with
   | none => walkGo l f wait out
   | some k => if isIn out i = true then walkGo l f wait out else walkGo l f (kidsAt l k ++ wait) (out ++ [i])
def kidsSum (l : List Row) : Nat := (l.map (fun r => r.node.kids.length)).sum
def walk (l : List Row) (id : Nat) : List Nat := (walkGo l (kidsSum l + 2) [id] []).getD []
def deepGo (D : Nat → Nat) : List Nat → Nat → Nat
 | [], most => most + 1
 | k :: ks, most => if D k = 0 then 0 else deepGo D ks (max most (D k))
def deepF (l : List Row) : Nat → Nat → Nat
 | 0, _ => 0
 | n + 1, id => deepGo (deepF l n) (kidsAt l ((atI l id).getD 0)) 0
def treeKids (l : List Row) : List Nat → Nat → Option Nat
 | [], n => some n
 | k :: ks, n => if atI l k = none ∨ k = 1 then none else treeKids l ks (n + 1)
def treeRows (l : List Row) : List Row → Nat → Option Nat
 | [], n => some n
 | r :: rs, n => if r.node.ref ≠ 0 ∧ atI l r.node.ref = none then none else
   match treeKids l r.node.kids n with
   | none => none
   | some n => treeRows l rs n
def tree (l : List Row) : Bool :=
 match atI l 1 with
 | none => false
 | some k => if (rowAt l k).node.kind ≠ 1 ∨ (walk l 1).length ≠ l.length then false else
   match treeRows l l 0 with
   | none => false
   | some n => decide (n + 1 = l.length) && decide (0 < deepF l 200 1)
def isExpr (kind : Nat) : Bool := decide (13 ≤ kind) && decide (kind ≤ 20)
def classOf (kind : Nat) : UInt8 :=
 if kind = 19 then 67 else if isExpr kind then 69 else if kind = 10 then 82 else if 6 ≤ kind ∧ kind ≤ 12 then 83 else if kind = 5 then 66 else if kind = 4 then 80 else if kind = 3 then 70 else if kind = 2 then 77 else 88
def only (s letters : Str) : Bool := s.all (fun c => letters.any (fun x => c == x))
def fits (kind : Nat) (s : Str) (body : Bool) : Bool :=
 if kind = 1 then only s [77]
 else if kind = 2 then only s [70]
 else if kind = 3 then decide (0 < s.length) && only (s.take (s.length - 1)) [80] && s.drop (s.length - 1) == [66]
 else if kind = 5 then (if body then decide (0 < s.length) && only (s.take (s.length - 1)) [83] && s.drop (s.length - 1) == [82] else only s [83])
 else if kind = 6 ∨ kind = 7 ∨ kind = 10 ∨ kind = 11 ∨ kind = 16 ∨ kind = 17 then decide (s.length = 1) && only s [69, 67]
 else if kind = 8 then decide (s.length = 3) && only (s.take 1) [69, 67] && s.drop 1 == [66, 66]
 else if kind = 9 then decide (s.length = 2) && only (s.take 1) [69, 67] && s.drop 1 == [66]
 else if kind = 12 then s == [67]
 else if kind = 18 then decide (s.length = 2) && only s [69, 67]
 else if kind = 19 then only s [69, 67]
 else decide (s.length = 0)
def kindOf (l : List Row) (id : Nat) : Nat := (nodeOf l id).kind
def classes (l : List Row) (kids : List Nat) : Str := kids.map (fun k => classOf (kindOf l k))
def isNamed (k : Nat) : Bool := decide (k = 2) || decide (k = 3) || decide (k = 4) || decide (k = 6)
def shapedRow (l : List Row) (r : Row) : Bool :=
 let n := r.node
 if n.kind < 1 ∨ 20 < n.kind ∨ decide (n.kind = 1) ≠ decide (r.id = 1) ∨ fits n.kind (classes l n.kids) (decide (kindOf l (parentOf l r.id).1 = 3)) = false then false
 else if isNamed n.kind ≠ (n.name != []) ∨ isNamed n.kind = true ∧ (r8name n.name = false ∨ inL words n.name = true) then false
 else if (isNamed n.kind && decide (n.kind ≠ 2)) ≠ (decide (n.type = 1) || decide (n.type = 2)) ∨ (isNamed n.kind && decide (n.kind ≠ 2)) = false ∧ n.type ≠ 0 then false
 else if n.kind = 7 ∨ n.kind = 15 then
  (if kindOf l n.ref ≠ 4 ∧ kindOf l n.ref ≠ 6 then false else decide (n.num = 0))
 else if n.kind = 19 then
  (if kindOf l n.ref ≠ 3 then false else decide (n.num = 0))
 else if n.ref ≠ 0 then false
 else if n.kind = 13 then decide (0 ≤ n.num)
 else if n.kind = 14 then decide (0 ≤ n.num ∧ n.num ≤ 1)
 else if n.kind = 18 then decide (1 ≤ n.num ∧ n.num ≤ 13)
 else decide (n.num = 0)
def depthGo (l : List Row) (D : Nat → Option Nat) (kind : Nat) : List Nat → Nat → Option Nat
 | [], most => some (if 16 ≤ kind ∧ kind ≤ 19 then most + 1 else most)
 | k :: ks, most =>
   match D k with
   | none => none
   | some d => depthGo l D kind ks (max most (if kindOf l k = 5 ∧ kind ≠ 3 then d + 1 else d))
def depthF (l : List Row) : Nat → Nat → Option Nat
 | 0, _ => none
 | f + 1, id => depthGo l (depthF l f) (kindOf l id) (nodeOf l id).kids 0
def shapedDeep (l : List Row) : List Row → Option Bool
 | [] => some true
 | r :: rs => if r.node.kind = 3 then
     (match depthF l 201 r.id with
      | none => none
      | some d => if 90 < d then some false else shapedDeep l rs)
   else shapedDeep l rs
def shapedGo (l : List Row) : List Row → Bool
 | [] => true
 | r :: rs => if shapedRow l r = false then false else shapedGo l rs
def shaped (l : List Row) : Option Bool := if tree l = false then some false else if shapedGo l l = false then some false else shapedDeep l l
def wMain : Str := [109, 97, 105, 110]
end Hg
namespace Hg
theorem deepGo_pos (D : Nat → Nat) : ∀ (ks : List Nat) (m : Nat), 0 < deepGo D ks m ↔ ∀ k ∈ ks, 0 < D k
 | [], m => by simp [deepGo]
 | k :: ks, m => by
   rw [deepGo]
   by_cases h : D k = 0
   ·
    rw [if_pos h]; simp [h]
   ·
    rw [if_neg h, deepGo_pos D ks]
    simp only [List.mem_cons, forall_eq_or_imp]
    exact ⟨fun x => ⟨by omega, x⟩, fun x => x.2⟩
theorem deepF_pos (l : List Row) (n id : Nat) : 0 < deepF l (n + 1) id ↔ ∀ k ∈ kidsAt l ((atI l id).getD 0), 0 < deepF l n k := by
 rw [deepF, deepGo_pos]
theorem deepF_mono (l : List Row) : ∀ (n id : Nat), 0 < deepF l n id → 0 < deepF l (n + 1) id
 | 0, id, h => by simp [deepF] at h
 | n + 1, id, h => by
   rw [deepF_pos] at h ⊢
   exact fun k hk => deepF_mono l n k (h k hk)
def Good (l : List Row) (id : Nat) : Prop := 0 < deepF l 200 id
theorem Good.kid {l : List Row} {id k : Nat} (h : Good l id) (hk : k ∈ kidsAt l ((atI l id).getD 0)) : Good l k :=
 deepF_mono l 199 k ((deepF_pos l 199 id).1 h k hk)
end Hg
