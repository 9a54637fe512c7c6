/-
  Part of a proof of RunLoops: contracts of functions that the claim reaches, and plain lemmas.
-/
set_option linter.all false
namespace Hg
abbrev Str := List UInt8
structure Tok where
 kind : Nat
 text : Str
 pos : Nat
deriving Inhabited, DecidableEq
structure Node where
 kind : Nat
 name : Str
 num : Int
 type : Nat
 ref : Nat
 kids : List Nat
deriving Inhabited, DecidableEq
structure Row where
 id : Nat
 node : Node
deriving Inhabited, DecidableEq
def Node.zero : Node := ⟨0, [], 0, 0, 0, []⟩
def cls (c : UInt8) : Nat :=
 if (97 ≤ c.toNat ∧ c.toNat ≤ 122) ∨ (65 ≤ c.toNat ∧ c.toNat ≤ 90) ∨ c.toNat = 95 then 1
 else if 48 ≤ c.toNat ∧ c.toNat ≤ 57 then 2
 else if c.toNat = 32 ∨ c.toNat = 9 ∨ c.toNat = 10 then 3 else 0
def isPart (c : UInt8) : Bool := cls c == 1 || cls c == 2
def inL (l : List Str) (s : Str) : Bool := l.any (· == s)
def r8name (s : Str) : Bool :=
 match s with
 | [] => false
 | c :: _ => s.length ≤ 64 && cls c == 1 && s.all isPart
def valOf (s : Str) : Nat := s.foldl (fun n c => 10 * n + (c.toNat - 48)) 0
def r8number (s : Str) : Int :=
 match s with
 | [] => -1
 | c :: r =>
   if 19 < s.length ∨ (c.toNat = 48 ∧ r ≠ []) then -1
   else if s.all (fun c => cls c == 2) then (if 9223372036854775807 < valOf s then -1 else (valOf s : Int)) else -1
def wBool : Str := [98, 111, 111, 108]
def wDo : Str := [100, 111]
def wElse : Str := [101, 108, 115, 101]
def wFalse : Str := [102, 97, 108, 115, 101]
def wFunc : Str := [102, 117, 110, 99]
def wIf : Str := [105, 102]
def wInt : Str := [105, 110, 116]
def wLet : Str := [108, 101, 116]
def wModule : Str := [109, 111, 100, 117, 108, 101]
def wPrint : Str := [112, 114, 105, 110, 116]
def wRead : Str := [114, 101, 97, 100]
def wReturn : Str := [114, 101, 116, 117, 114, 110]
def wTrue : Str := [116, 114, 117, 101]
def wWhile : Str := [119, 104, 105, 108, 101]
def words : List Str := [wBool, wDo, wElse, wFalse, wFunc, wIf, wInt, wLet, wModule, wPrint, wRead, wReturn, wTrue, wWhile]
def signs : List Str := [[40], [41], [123], [125], [46], [44], [59], [61], [33], [43], [45], [42], [47], [37], [60], [60, 61], [62], [62, 61], [61, 61], [33, 61], [38, 38], [124, 124]]
def r8scan : Nat → Nat → Str → List Tok → Option (List Tok)
 | 0, _, _, acc => some acc
 | f + 1, i, s, acc =>
   match s with
   | [] => some acc
   | c :: r =>
     if cls c = 3 then r8scan f (i + 1) r acc
     else if c.toNat = 35 then
      let k := (s.takeWhile (fun b => b.toNat != 10)).length
      r8scan f (i + k) (s.drop k) acc
     else if 0 < cls c then
      let w := s.takeWhile isPart
      let nx := fun t => r8scan f (i + w.length) (s.drop w.length) (acc ++ [t])
      if inL words w then nx ⟨3, w, i⟩
      else if r8name w then nx ⟨1, w, i⟩
      else if 0 ≤ r8number w then nx ⟨2, w, i⟩
      else none
     else
      let w := if inL signs (s.take 2) ∧ 2 ≤ s.length then s.take 2 else s.take 1
      if inL signs w then r8scan f (i + w.length) (s.drop w.length) (acc ++ [⟨4, w, i⟩]) else none
def r8all (s : Str) : Option (List Tok) := r8scan s.length 0 s []
structure Bound where
 name : Str
 id : Nat
 deep : Nat
deriving Inhabited, DecidableEq
structure Rd where
 L : List Tok
 at_ : Nat
 deep : Nat
 bad : Bool
 rows : List Row
 names : Nat
 mods : List Str
 funcs : List Str
 ids : List Nat
 calls : List Nat
 wants : List Str
 used : List Str
 seen : List Bound
 level : Nat
deriving Inhabited, DecidableEq
namespace Rd
def fault (r : Rd) (e : Nat) : Rd := if r.names = 0 ∧ r.bad = false then { r with names := e } else r
def addKid (l : List Row) (under id : Nat) : List Row :=
 l.modify under fun x => { x with node := { x.node with kids := x.node.kids ++ [id] } }
def node (r : Rd) (under : Nat) (n : Node) : Rd :=
 let id := r.rows.length + 1
 let rows := r.rows ++ [⟨id, n⟩]
 { r with rows := if 1 < id then addKid rows under id else rows }
def text (r : Rd) (kind : Nat) : Str :=
 if r.bad then [] else
  match r.L[r.at_]? with
  | some t => if t.kind = kind then t.text else []
  | none => []
def next (r : Rd) (s : Str) : Bool := r.text 3 == s || r.text 4 == s
def step (r : Rd) : Rd := { r with at_ := r.at_ + 1 }
def setBad (r : Rd) : Rd := { r with bad := true }
def need (r : Rd) (s : Str) : Rd := if r.next s then r.step else r.setBad
def name (r : Rd) : Rd := if r.text 1 = [] then r.setBad else r.step
def typed (r : Rd) : Nat × Rd := if r.next wInt then (1, r.step) else (2, r.need wBool)
def setType (r : Rd) (k t : Nat) : Rd := { r with rows := r.rows.modify k fun x => { x with node := { x.node with type := t } } }
def setRef (r : Rd) (k id : Nat) : Rd := { r with rows := r.rows.modify k fun x => { x with node := { x.node with ref := id } } }
def setNum (r : Rd) (k : Nat) (n : Int) : Rd := { r with rows := r.rows.modify k fun x => { x with node := { x.node with num := n } } }
def idAt (r : Rd) (k : Nat) : Nat := ((r.rows[k]?).map (·.id)).getD 0
def declare (r : Rd) (s : Str) (k : Nat) : Rd :=
 let r := if inL r.used s then r.fault 10 else r
 { r with used := r.used ++ [s], seen := r.seen ++ [⟨s, r.idAt k, r.level⟩] }
def findIn (l : List Bound) (s : Str) : Option Nat := (l.reverse.find? (fun b => b.name == s)).map (·.id)
def find (r : Rd) (s : Str) : Nat × Rd :=
 match findIn r.seen s with
 | some id => (id, r)
 | none => (0, r.fault 9)
def enter (r : Rd) : Rd :=
 let r := { r with deep := r.deep + 1 }
 if 90 < r.deep then r.setBad else r
def leave (r : Rd) : Rd := { r with deep := r.deep - 1 }
end Rd
end Hg
namespace Hg
namespace Rd
def ops : List Str := [[43], [45], [42], [47], [37], [60], [60, 61], [62], [62, 61], [61, 61], [33, 61], [38, 38], [124, 124]]
def opOf (s : Str) : Nat := match ops.findIdx? (· == s) with | some i => i + 1 | none => 0
def nd (kind : Nat) : Node := ⟨kind, [], 0, 0, 0, []⟩
def ndNamed (kind : Nat) (s : Str) : Node := ⟨kind, s, 0, 0, 0, []⟩
def ndNum (kind : Nat) (n : Int) : Node := ⟨kind, [], n, 0, 0, []⟩
def shut (r : Rd) : Rd := { r with seen := r.seen.filter (fun b => b.deep < r.level), level := r.level - 1 }
mutual
def expr : Nat → Rd → Nat → Option Rd
 | 0, _, _ => none
 | f + 1, r, under =>
   if r.text 2 ≠ [] then some (r.step.node under (ndNum 13 (r8number (r.text 2))))
   else if r.text 1 ≠ [] then
    let s := r.text 1
    let r := r.step
    if r.next [46] then call f r under s
    else
     let n := r.rows.length
     let r := r.node under (nd 15)
     some ((r.find s).2.setRef n (r.find s).1)
   else if r.next wTrue then some (r.step.node under (ndNum 14 1))
   else if r.next wFalse then some (r.step.node under (nd 14))
   else if r.next wRead then some (r.step.node under (nd 20))
   else if r.next [33] ∨ r.next [45] then
    let kind := if r.next [33] then 16 else 17
    let n := r.rows.length
    let r := (r.step.node under (nd kind)).enter
    if r.bad then some r.leave else (expr f r n).map leave
   else if r.next [40] then
    let n := r.rows.length
    let r := (r.step.node under (nd 18)).enter
    if r.bad then some r.leave else
     match expr f r n with
     | none => none
     | some r =>
       let op := opOf (r.text 4)
       let r := r.setNum n op
       let r := if op = 0 then r.setBad else r
       match expr f r.step n with
       | none => none
       | some r => some (r.need [41]).leave
   else some r.setBad
def call : Nat → Rd → Nat → Str → Option Rd
 | 0, _, _, _ => none
 | f + 1, r, under, mod =>
   let n := r.rows.length
   let r := (r.node under (nd 19)).need [46]
   let s := r.text 1
   let r := r.name
   let r := { r with calls := r.calls ++ [r.idAt n], wants := r.wants ++ [mod ++ [32] ++ s] }
   let r := r.enter
   if r.bad then some r.leave else (args f true (r.need [40]) n).map leave
def args : Nat → Bool → Rd → Nat → Option Rd
 | 0, _, _, _ => none
 | f + 1, first, r, n =>
   if r.bad then some r
   else if r.next [41] then some r.step
   else
    match expr f (if first then r else r.need [44]) n with
    | none => none
    | some r => args f false r n
end
mutual
def stmt : Nat → Rd → Nat → Option Rd
 | 0, _, _ => none
 | f + 1, r, under =>
   let n := r.rows.length
   if r.next wLet then
    let r := r.step
    let s := r.text 1
    let r := r.name.node under (ndNamed 6 s)
    let t := r.typed
    let r := (t.2.setType n t.1).need [61]
    match expr f r n with
    | none => none
    | some r => some ((r.declare s n).need [59])
   else if r.next wIf then
    match expr f (r.step.node under (nd 8)) n with
    | none => none
    | some r =>
      match block f r n with
      | none => none
      | some r => block f (r.need wElse) n
   else if r.next wWhile then
    match expr f (r.step.node under (nd 9)) n with
    | none => none
    | some r => block f r n
   else if r.next wPrint then
    (expr f (r.step.node under (nd 11)) n).map (·.need [59])
   else if r.next wDo then
    let r := r.step.node under (nd 12)
    (call f r.name n (r.text 1)).map (·.need [59])
   else
    let s := r.text 1
    let r := r.name.node under (nd 7)
    let r := ((r.find s).2.setRef n (r.find s).1).need [61]
    (expr f r n).map (·.need [59])
def block : Nat → Rd → Nat → Option Rd
 | 0, _, _ => none
 | f + 1, r, under =>
   let n := r.rows.length
   let r := r.node under (nd 5)
   let r := ({ r with level := r.level + 1 } : Rd).enter
   if r.bad then some r.leave.shut else (stmts f (r.need [123]) n).map (fun r => r.leave.shut)
def stmts : Nat → Rd → Nat → Option Rd
 | 0, _, _ => none
 | f + 1, r, n =>
   if r.bad then some r
   else if r.next [125] then some r.step
   else
    match stmt f r n with
    | none => none
    | some r => stmts f r n
end
def params : Nat → Bool → Rd → Nat → Option Rd
 | 0, _, _, _ => none
 | f + 1, first, r, k =>
   if r.bad then some r
   else if r.next [41] then some r.step
   else
    let r := if first then r else r.need [44]
    let x := r.text 1
    let p := r.rows.length
    let r := r.name.node k (ndNamed 4 x)
    let t := r.typed
    params f false ((t.2.setType p t.1).declare x p) k
def body : Nat → Rd → Nat → Option Rd
 | 0, _, _ => none
 | f + 1, r, n =>
   if r.bad ∨ r.next wReturn then some r
   else
    match stmt f r n with
    | none => none
    | some r => body f r n
def func (f : Nat) (r : Rd) (under : Nat) (mod : Str) : Option Rd :=
 let r := r.need wFunc
 let s := r.text 1
 let r := r.name
 let r := if inL r.funcs (mod ++ [32] ++ s) then r.fault 10 else r
 let k := r.rows.length
 let r := r.node under (ndNamed 3 s)
 let r := { r with funcs := r.funcs ++ [mod ++ [32] ++ s], ids := r.ids ++ [r.idAt k], used := [], seen := [], level := 0 }
 match params f true (r.need [40]) k with
 | none => none
 | some r =>
   let t := r.typed
   let r := t.2.setType k t.1
   let b := r.rows.length
   let r := (r.node k (nd 5)).need [123]
   match body f r b with
   | none => none
   | some r =>
     let r := r.need wReturn
     let n := r.rows.length
     match expr f (r.node b (nd 10)) n with
     | none => none
     | some r => some ((r.need [59]).need [125])
end Rd
end Hg
namespace Hg
def atI (l : List Row) (id : Nat) : Option Nat := l.findIdx? (fun r => r.id == id)
def parentOf : List Row → Nat → Nat × Nat
 | [], _ => (0, 0)
 | r :: rs, id => match r.node.kids.findIdx? (· == id) with
   | some k => (r.id, k)
   | none => parentOf rs id
def nodeOf (l : List Row) (id : Nat) : Node := match l.find? (fun r => r.id == id) with | some r => r.node | none => Node.zero
def isIn (l : List Nat) (x : Nat) : Bool := l.contains x
def numT (n : Nat) : Str := if n < 10 then [UInt8.ofNat (48 + n)] else if n < 100 then [UInt8.ofNat (48 + n / 10), UInt8.ofNat (48 + n % 10)] else [UInt8.ofNat (48 + n / 100), UInt8.ofNat (48 + n / 10 % 10), UInt8.ofNat (48 + n % 10)]
end Hg
namespace Hg
section
variable {f i : Nat} {c : UInt8} {r : Str} {acc : List Tok}
end
end Hg
namespace Hg
namespace Rd
structure Grow (s s' : Rd) : Prop where
 L : s'.L = s.L
 at_ : s.at_ ≤ s'.at_
 bad : s.bad = true → s'.bad = true
 rows : ∀ (k : Nat) (r : Row), s.rows[k]? = some r → ∃ r', s'.rows[k]? = some r' ∧ r'.id = r.id ∧ r.node.kids.length ≤ r'.node.kids.length
 len : s.rows.length ≤ s'.rows.length
theorem Grow.refl (s : Rd) : Grow s s := ⟨rfl, Nat.le_refl _, id, fun k r h => ⟨r, h, rfl, Nat.le_refl _⟩, Nat.le_refl _⟩
theorem Grow.trans {a b c : Rd} (h : Grow a b) (k : Grow b c) : Grow a c :=
 ⟨k.L.trans h.L, Nat.le_trans h.at_ k.at_, fun hb => k.bad (h.bad hb), fun i r hr => by
  obtain ⟨r1, h1, h2, h3⟩ := h.rows i r hr
  obtain ⟨r2, k1, k2, k3⟩ := k.rows i r1 h1
  exact ⟨r2, k1, k2.trans h2, Nat.le_trans h3 k3⟩, Nat.le_trans h.len k.len⟩
structure Inv (s : Rd) : Prop where
 mods : s.mods.length ≤ s.rows.length
 funcs : s.funcs.length ≤ s.rows.length
 ids : s.ids.length = s.funcs.length
 calls : s.calls.length ≤ s.rows.length
 wants : s.wants.length = s.calls.length
 used : s.used.length ≤ s.rows.length
 seen : s.seen.length ≤ s.used.length
 kids : ∀ (k : Nat) (r : Row), s.rows[k]? = some r → r.node.kids.length ≤ s.rows.length
 rid : ∀ (k : Nat) (r : Row), s.rows[k]? = some r → r.id = k + 1
 callr : ∀ c ∈ s.calls, 0 < c ∧ c ≤ s.rows.length
section
variable {s : Rd}
theorem inv_same {s' : Rd} (h : Inv s) (h1 : s'.rows = s.rows) (h2 : s'.mods = s.mods) (h3 : s'.funcs = s.funcs) (h4 : s'.ids = s.ids) (h5 : s'.calls = s.calls) (h6 : s'.wants = s.wants) (h7 : s'.used = s.used) (h8 : s'.seen.length ≤ s.seen.length) : Inv s' :=
 ⟨by rw [h1, h2]; exact h.mods, by rw [h1, h3]; exact h.funcs, by rw [h3, h4]; exact h.ids, by rw [h1, h5]; exact h.calls, by rw [h5, h6]; exact h.wants, by rw [h1, h7]; exact h.used, by rw [h7]; exact Nat.le_trans h8 h.seen,
  by rw [h1]; exact h.kids, by rw [h1]; exact h.rid, by rw [h1, h5]; exact h.callr⟩
end
structure EStep (s s' : Rd) : Prop where
 grow : Grow s s'
 inv : Inv s → Inv s'
 deep : s'.deep = s.deep
 level : s'.level = s.level
 used : s'.used = s.used
 seen : s'.seen = s.seen
 mods : s'.mods = s.mods
 funcs : s'.funcs = s.funcs
 ids : s'.ids = s.ids
theorem EStep.refl (s : Rd) : EStep s s := ⟨Grow.refl s, id, rfl, rfl, rfl, rfl, rfl, rfl, rfl⟩
theorem EStep.trans {a b c : Rd} (h : EStep a b) (k : EStep b c) : EStep a c :=
 ⟨h.grow.trans k.grow, fun x => k.inv (h.inv x), k.deep.trans h.deep, k.level.trans h.level, k.used.trans h.used, k.seen.trans h.seen, k.mods.trans h.mods, k.funcs.trans h.funcs, k.ids.trans h.ids⟩
end Rd
end Hg
namespace Hg
namespace Rd
end Rd
end Hg
namespace Hg
namespace Rd
structure SStep (s s' : Rd) : Prop where
 grow : Grow s s'
 inv : Inv s → Inv s'
 deep : s'.deep = s.deep
 level : s'.level = s.level
 mods : s'.mods = s.mods
 funcs : s'.funcs = s.funcs
 ids : s'.ids = s.ids
theorem EStep.s {a b : Rd} (h : EStep a b) : SStep a b := ⟨h.grow, h.inv, h.deep, h.level, h.mods, h.funcs, h.ids⟩
theorem SStep.refl (s : Rd) : SStep s s := (EStep.refl s).s
theorem SStep.trans {a b c : Rd} (h : SStep a b) (k : SStep b c) : SStep a c :=
 ⟨h.grow.trans k.grow, fun x => k.inv (h.inv x), k.deep.trans h.deep, k.level.trans h.level, k.mods.trans h.mods, k.funcs.trans h.funcs, k.ids.trans h.ids⟩
def head (s : Rd) (u : Nat) : Rd := ({ (s.node u (nd 5)) with level := (s.node u (nd 5)).level + 1 } : Rd)
end Rd
end Hg
namespace Hg
namespace Rd
structure FStep (s s' : Rd) : Prop where
 grow : Grow s s'
 inv : Inv s → Inv s'
 deep : s'.deep = s.deep
 mods : s'.mods = s.mods
theorem SStep.f {a b : Rd} (h : SStep a b) : FStep a b := ⟨h.grow, h.inv, h.deep, h.mods⟩
theorem FStep.refl (s : Rd) : FStep s s := (SStep.refl s).f
theorem FStep.trans {a b c : Rd} (h : FStep a b) (k : FStep b c) : FStep a c := ⟨h.grow.trans k.grow, fun x => k.inv (h.inv x), k.deep.trans h.deep, k.mods.trans h.mods⟩
end Rd
end Hg
namespace Hg
namespace Rd
end Rd
end Hg
namespace Hg
namespace Rd
def mu (s : Rd) : Nat := if s.bad = true then 0 else s.L.length - s.at_ + 1
def Q (d e : Nat) (s s' : Rd) : Prop := s'.mu ≤ s.mu - d ∧ s'.rows.length ≤ s.rows.length + e ∧ s'.at_ + 2 * s'.mu ≤ s.at_ + 2 * s.mu
def W (d e : Nat) (s s' : Rd) : Prop := s'.mu ≤ s.mu - d ∧ s'.rows.length + 3 * s'.mu ≤ s.rows.length + 3 * s.mu + e ∧ s'.at_ + 2 * s'.mu ≤ s.at_ + 2 * s.mu
end Rd
end Hg
namespace Hg
def kRel (p c : Nat) : Prop := (p = 1 ∧ c = 2) ∨ (p = 2 ∧ c = 3) ∨ (3 ≤ p ∧ 4 ≤ c)
structure Tr (rows : List Row) : Prop where
 rid : ∀ (k : Nat) (r : Row), rows[k]? = some r → r.id = k + 1
 up : ∀ (k : Nat) (r : Row), rows[k]? = some r → ∀ c ∈ r.node.kids, k + 1 < c ∧ c ≤ rows.length
 perm : (rows.flatMap (fun r => r.node.kids)).Perm (List.range' 2 (rows.length - 1))
 kind : ∀ (k : Nat) (r : Row), rows[k]? = some r → ∀ c ∈ r.node.kids, ∀ r', rows[c - 1]? = some r' → kRel r.node.kind r'.node.kind
 root : ∀ r, rows[0]? = some r → r.node.kind = 1
namespace Rd
structure KS (s s' : Rd) : Prop where
 kinds : ∀ (k : Nat) (r : Row), s.rows[k]? = some r → ∃ r', s'.rows[k]? = some r' ∧ r'.node.kind = r.node.kind
 tr : Tr s.rows → Tr s'.rows
theorem KS.refl (s : Rd) : KS s s := ⟨fun _ r h => ⟨r, h, rfl⟩, id⟩
theorem KS.trans {a b c : Rd} (h : KS a b) (k : KS b c) : KS a c :=
 ⟨fun i r hr => by
  obtain ⟨r1, h1, h2⟩ := h.kinds i r hr
  obtain ⟨r2, k1, k2⟩ := k.kinds i r1 h1
  exact ⟨r2, k1, k2.trans h2⟩, fun x => k.tr (h.tr x)⟩
def At (s : Rd) (u : Nat) (p : Nat → Prop) : Prop := ∃ r, s.rows[u]? = some r ∧ p r.node.kind
theorem At.keep {s s' : Rd} {u : Nat} {p : Nat → Prop} (h : At s u p) (k : KS s s') : At s' u p := by
 obtain ⟨r, h1, h2⟩ := h
 obtain ⟨r', k1, k2⟩ := k.kinds u r h1
 exact ⟨r', k1, by rw [k2]; exact h2⟩
theorem At.imp {s : Rd} {u : Nat} {p q : Nat → Prop} (h : At s u p) (k : ∀ n, p n → q n) : At s u q := by
 obtain ⟨r, h1, h2⟩ := h
 exact ⟨r, h1, k _ h2⟩
theorem At.ne {s : Rd} {u : Nat} {p : Nat → Prop} (h : At s u p) : u ≠ s.rows.length := by
 obtain ⟨r, h1, _⟩ := h
 have := (List.getElem?_eq_some_iff.1 h1).1
 omega
end Rd
end Hg
namespace Hg
end Hg
namespace Hg
def tkAt (L : List Tok) (k : Nat) : Tok := L.getD k ⟨0, [], 0⟩
theorem tkAt_get {L : List Tok} {k : Nat} (h : k < L.length) : L[k]? = some (tkAt L k) := by simp [tkAt, h]
def tkIs (L : List Tok) (k : Nat) (s : List UInt8) : Bool := (tkAt L k).text == s && (decide ((tkAt L k).kind = 3) || decide ((tkAt L k).kind = 4))
def tkB (L : List Tok) (k : Nat) (s : List UInt8) : Bool := decide (k < L.length) && tkIs L k s
theorem tkB_lt {L : List Tok} {k : Nat} {s : List UInt8} (h : tkB L k s = true) : k < L.length := by simp [tkB] at h; exact h.1
theorem tkB_is {L : List Tok} {k : Nat} {s : List UInt8} (h : tkB L k s = true) : tkIs L k s = true := by simp [tkB] at h; exact h.2
inductive GT where
 | mk (b : Nat) (nd : Node) (md tt : Str) (ks : List GT)
namespace GT
def b : GT → Nat | .mk b _ _ _ _ => b
def nd : GT → Node | .mk _ n _ _ _ => n
def md : GT → Str | .mk _ _ m _ _ => m
def tt : GT → Str | .mk _ _ _ t _ => t
def ks : GT → List GT | .mk _ _ _ _ k => k
mutual
def subs : GT → List GT | .mk b nd md tt ks => .mk b nd md tt ks :: subsL ks
def subsL : List GT → List GT | [] => [] | t :: ts => subs t ++ subsL ts
end
mutual
def map (f : Nat → Nat) : GT → GT | .mk b nd md tt ks => .mk (f b) nd md tt (mapL f ks)
def mapL (f : Nat → Nat) : List GT → List GT | [] => [] | t :: ts => map f t :: mapL f ts
end
abbrev era (t : GT) : GT := t.map fun _ => 0
abbrev eraL (l : List GT) : List GT := mapL (fun _ => 0) l
end GT
def ndK (kind : Nat) : Node := ⟨kind, [], 0, 0, 0, []⟩
def gmk (kind : Nat) (num : Int) (tt : Str) (ks : List GT) : GT := .mk 0 ⟨kind, [], num, 0, 0, []⟩ [] tt ks
def digit (s : Str) : Option Nat := (List.range 256).find? fun n => numT n == s
theorem digit_some {s : Str} {n : Nat} (h : digit s = some n) : n < 256 ∧ s = numT n :=
 ⟨List.mem_range.1 (List.mem_of_find?_eq_some h), by simpa using (Eq.symm (by simpa using List.find?_some h : numT n = s))⟩
def signs13 : List Str := [[43], [45], [42], [47], [37], [60], [60, 61], [62], [62, 61], [61, 61], [33, 61], [38, 38], [124, 124]]
def signNo (s : Str) : Nat := match signs13.findIdx? (· == s) with | some k => k + 1 | none => 0
def gMore (L : List Tok) (item : Nat → Option (GT × Nat)) : Nat → Nat → Option (List GT × Nat)
 | 0, _ => none
 | n + 1, k => match item k with
   | none => none
   | some (a, k1) =>
     if tkB L k1 [41] then some ([a], k1 + 1)
     else if tkB L k1 [44] then match gMore L item n (k1 + 1) with
      | none => none
      | some (l, k2) => some (a :: l, k2)
     else none
def gList (L : List Tok) (item : Nat → Option (GT × Nat)) (k : Nat) : Option (List GT × Nat) :=
 if tkB L k [41] then some ([], k + 1) else gMore L item L.length k
def gUntil (L : List Tok) (stop : Str) (item : Nat → Option (GT × Nat)) : Nat → Nat → Option (List GT × Nat)
 | 0, _ => none
 | n + 1, k =>
   if tkB L k stop then some ([], k)
   else if L.length ≤ k then none
   else match item k with
   | none => none
   | some (a, k1) => match gUntil L stop item n k1 with
     | none => none
     | some (l, k2) => some (a :: l, k2)
def gC (L : List Tok) (item : Nat → Option (GT × Nat)) (d : Nat) (mod : Str) (k : Nat) : Option (GT × Nat) :=
 if tkB L k [46] && (decide (k + 1 < L.length) && (decide ((tkAt L (k + 1)).kind = 1) && (decide (d < 60) && tkB L (k + 2) [40]))) then
  match gList L item (k + 3) with
  | none => none
  | some (l, k2) => some (.mk 0 (ndK 19) mod (tkAt L (k + 1)).text l, k2)
 else none
def gE (L : List Tok) : Nat → Nat → Nat → Option (GT × Nat)
 | 0, _, _ => none
 | f + 1, d, k =>
   if L.length ≤ k then none
   else if (tkAt L k).kind = 2 then match digit (tkAt L k).text with
    | some n => some (gmk 13 n [] [], k + 1)
    | none => none
   else if (tkAt L k).kind = 1 then
    if L.length ≤ k + 1 then none
    else if tkIs L (k + 1) [46] then gC L (gE L f (d + 1)) d (tkAt L k).text (k + 1)
    else some (gmk 15 0 (tkAt L k).text [], k + 1)
   else if tkIs L k wTrue then some (gmk 14 1 [] [], k + 1)
   else if tkIs L k wFalse then some (gmk 14 0 [] [], k + 1)
   else if tkIs L k wRead then none
   else if tkIs L k [33] then none
   else if tkIs L k [45] then none
   else if tkIs L k [40] then
    if d < 60 then match gE L f (d + 1) (k + 1) with
     | none => none
     | some (a, k1) =>
       if L.length ≤ k1 then none
       else if signNo (tkAt L k1).text = 0 then none
       else match gE L f (d + 1) (k1 + 1) with
        | none => none
        | some (b, k2) => if tkB L k2 [41] then some (gmk 18 (signNo (tkAt L k1).text) [] [a, b], k2 + 1) else none
    else none
   else none
def gType (L : List Tok) (k : Nat) : Option Nat := if tkB L k wInt then some 1 else if tkB L k wBool then some 2 else none
def nameB (L : List Tok) (k : Nat) : Bool := decide (k < L.length) && decide ((tkAt L k).kind = 1)
def gB (L : List Tok) (item : Nat → Option (GT × Nat)) (d k : Nat) : Option (GT × Nat) :=
 if decide (d < 60) && tkB L k [123] then match gUntil L [125] item L.length (k + 1) with
  | none => none
  | some (l, k2) => some (gmk 5 0 [] l, k2 + 1)
 else none
def gS (L : List Tok) : Nat → Nat → Nat → Option (GT × Nat)
 | 0, _, _ => none
 | f + 1, d, k =>
   if tkB L k wLet then
    if nameB L (k + 1) then match gType L (k + 2) with
     | none => none
     | some t => if tkB L (k + 3) [61] then match gE L f d (k + 4) with
       | none => none
       | some (e, k1) => if tkB L k1 [59] then some (.mk 0 ⟨6, (tkAt L (k + 1)).text, 0, t, 0, []⟩ [] [] [e], k1 + 1) else none
       else none
    else none
   else if tkB L k wIf then match gE L f d (k + 1) with
    | none => none
    | some (e, k1) => match gB L (gS L f (d + 1)) d k1 with
      | none => none
      | some (b, k2) => if tkB L k2 wElse then match gB L (gS L f (d + 1)) d (k2 + 1) with
        | none => none
        | some (c, k3) => some (gmk 8 0 [] [e, b, c], k3)
        else none
   else if tkB L k wWhile then match gE L f d (k + 1) with
    | none => none
    | some (e, k1) => match gB L (gS L f (d + 1)) d k1 with
      | none => none
      | some (b, k2) => some (gmk 9 0 [] [e, b], k2)
   else if tkB L k wPrint then match gE L f d (k + 1) with
    | none => none
    | some (e, k1) => if tkB L k1 [59] then some (gmk 11 0 [] [e], k1 + 1) else none
   else if tkB L k wDo then
    if nameB L (k + 1) then match gC L (gE L f (d + 1)) d (tkAt L (k + 1)).text (k + 2) with
     | none => none
     | some (c, k1) => if tkB L k1 [59] then some (gmk 12 0 [] [c], k1 + 1) else none
    else none
   else if nameB L k && tkB L (k + 1) [61] then match gE L f d (k + 2) with
    | none => none
    | some (e, k1) => if tkB L k1 [59] then some (gmk 7 0 (tkAt L k).text [e], k1 + 1) else none
   else none
def gPar (L : List Tok) (k : Nat) : Option (GT × Nat) :=
 if nameB L k then match gType L (k + 1) with
  | none => none
  | some t => some (.mk 0 ⟨4, (tkAt L k).text, 0, t, 0, []⟩ [] [] [], k + 2)
 else none
def gF (L : List Tok) (f k : Nat) : Option (GT × Nat) :=
 if tkB L k wFunc && (nameB L (k + 1) && tkB L (k + 2) [40]) then match gList L (gPar L) (k + 3) with
  | none => none
  | some (ps, k1) => match gType L k1 with
    | none => none
    | some t => if tkB L (k1 + 1) [123] then match gUntil L wReturn (gS L f 0) L.length (k1 + 2) with
      | none => none
      | some (ss, k2) => match gE L f 0 (k2 + 1) with
        | none => none
        | some (e, k3) => if tkB L k3 [59] && tkB L (k3 + 1) [125] then
         some (.mk 0 ⟨3, (tkAt L (k + 1)).text, 0, t, 0, []⟩ [] [] (ps ++ [gmk 5 0 [] (ss ++ [gmk 10 0 [] [e]])]), k3 + 2)
          else none
      else none
 else none
def gMod (L : List Tok) (f k : Nat) : Option (GT × Nat) :=
 if tkB L k wModule && (nameB L (k + 1) && tkB L (k + 2) [123]) then match gUntil L [125] (gF L f) L.length (k + 3) with
  | none => none
  | some (l, k1) => some (.mk 0 ⟨2, (tkAt L (k + 1)).text, 0, 0, 0, []⟩ [] [] l, k1 + 1)
 else none
def gMods (L : List Tok) (f : Nat) : Nat → Nat → Option (List GT)
 | 0, _ => none
 | n + 1, k => if L.length ≤ k then some [] else match gMod L f k with
   | none => none
   | some (m, k1) => match gMods L f n k1 with
     | none => none
     | some l => some (m :: l)
def gProg (L : List Tok) : Option GT := (gMods L 40 L.length 0).map fun l => gmk 1 0 [] l
mutual
def num (n : Nat) : GT → GT × Nat | .mk _ nd md tt ks => let r := numL (n + 1) ks; (.mk n nd md tt r.1, r.2)
def numL (n : Nat) : List GT → List GT × Nat
 | [] => ([], n)
 | t :: ts => let r := num n t; let q := numL r.2 ts; (r.1 :: q.1, q.2)
end
structure NmSt where
 used : List Str
 scope : List (List (Str × Nat))
 refs : List (Nat × Nat)
 calls : List GT
def inScope (l : List (Str × Nat)) (s : Str) : Option Nat := (l.find? (·.1 == s)).map (·.2)
def findVar : List (List (Str × Nat)) → Str → Option Nat
 | [], _ => none
 | l :: ls, s => match inScope l s with | some b => some b | none => findVar ls s
def NmSt.declare (σ : NmSt) (t : GT) : Except Nat NmSt :=
 if t.nd.name ∈ σ.used then .error 1
 else match σ.scope with
 | [] => .error 0
 | l :: ls => .ok { σ with used := t.nd.name :: σ.used, scope := ((t.nd.name, t.b) :: l) :: ls }
mutual
def nVisit (σ : NmSt) : GT → Except Nat NmSt
 | .mk b nd md tt ks =>
   let r : Except Nat NmSt :=
    if nd.kind = 7 ∨ nd.kind = 15 then match findVar σ.scope tt with
     | none => .error 2
     | some v => .ok { σ with refs := (b, v) :: σ.refs }
    else if nd.kind = 19 then .ok { σ with calls := σ.calls ++ [.mk b nd md tt ks] }
    else if nd.kind = 5 then .ok { σ with scope := [] :: σ.scope }
    else .ok σ
   match r with
   | .error e => .error e
   | .ok σ1 => match nVisitL σ1 ks with
     | .error e => .error e
     | .ok σ2 => if nd.kind = 5 then .ok { σ2 with scope := σ2.scope.drop 1 }
       else if nd.kind = 6 then σ2.declare (.mk b nd md tt ks) else .ok σ2
def nVisitL (σ : NmSt) : List GT → Except Nat NmSt
 | [] => .ok σ
 | t :: ts => match nVisit σ t with
   | .error e => .error e
   | .ok σ1 => nVisitL σ1 ts
end
def nKids (σ : NmSt) : List GT → Except Nat NmSt
 | [] => .ok σ
 | k :: ks => match (if k.nd.kind = 4 then σ.declare k else nVisit σ k) with
   | .error e => .error e
   | .ok σ1 => nKids σ1 ks
abbrev Funs := List ((Str × Str) × Nat)
def nFunc (fs : Funs) (σ : NmSt) (mod : Str) (f : GT) : Except Nat (Funs × NmSt) :=
 if (fs.find? (·.1 == (mod, f.nd.name))).isSome then .error 1
 else match nKids { σ with used := [], scope := [[]] } f.ks with
  | .error e => .error e
  | .ok σ1 => .ok (((mod, f.nd.name), f.b) :: fs, σ1)
def nFuncs (fs : Funs) (σ : NmSt) (mod : Str) : List GT → Except Nat (Funs × NmSt)
 | [] => .ok (fs, σ)
 | f :: l => match nFunc fs σ mod f with
   | .error e => .error e
   | .ok (fs1, σ1) => nFuncs fs1 σ1 mod l
def nMods (ms : List Str) (fs : Funs) (σ : NmSt) : List GT → Except Nat (Funs × NmSt)
 | [] => .ok (fs, σ)
 | m :: l => if m.nd.name ∈ ms then .error 1 else match nFuncs fs σ m.nd.name m.ks with
   | .error e => .error e
   | .ok (fs1, σ1) => nMods (m.nd.name :: ms) fs1 σ1 l
def nCalls (fs : Funs) (refs : List (Nat × Nat)) : List GT → Except Nat (List (Nat × Nat))
 | [] => .ok refs
 | c :: l => match fs.find? (·.1 == (c.md, c.tt)) with
   | none => .error 2
   | some (_, b) => nCalls fs ((c.b, b) :: refs) l
def nAll (t : GT) : Except Nat (List (Nat × Nat)) := match nMods [] [] ⟨[], [], [], []⟩ t.ks with
 | .error e => .error e
 | .ok (fs, σ) => nCalls fs σ.refs σ.calls
def refOf (refs : List (Nat × Nat)) (i : Nat) : Nat := ((refs.find? (·.1 == i)).map (·.2)).getD 0
def layRows (refs : List (Nat × Nat)) (t : GT) : List Row := t.subs.map fun s => ⟨s.b, { s.nd with ref := refOf refs s.b, kids := s.ks.map GT.b }⟩
def gParse (s : Str) : Except Nat (List Row) := match r8all s with
 | none => .error 0
 | some L => match gProg L with
   | none => .error 0
   | some t => match nAll (num 1 t).1 with
     | .error e => .error e
     | .ok refs => .ok (layRows refs (num 1 t).1)
end Hg
namespace Hg
def rowAt (l : List Row) (k : Nat) : Row := l.getD k default
def kidsAt (l : List Row) (k : Nat) : List Nat := (rowAt l k).node.kids
def walkGo (l : List Row) : Nat → List Nat → List Nat → Option (List Nat)
 | 0, _, _ => none
 | _ + 1, [], out => some out
 | f + 1, i :: wait, out =>
   match atI l i with
   | none => walkGo l f wait out
   | some k => if isIn out i = true then walkGo l f wait out else walkGo l f (kidsAt l k ++ wait) (out ++ [i])
def kidsSum (l : List Row) : Nat := (l.map (fun r => r.node.kids.length)).sum
def walk (l : List Row) (id : Nat) : List Nat := (walkGo l (kidsSum l + 2) [id] []).getD []
def deepGo (D : Nat → Nat) : List Nat → Nat → Nat
 | [], most => most + 1
 | k :: ks, most => if D k = 0 then 0 else deepGo D ks (max most (D k))
def deepF (l : List Row) : Nat → Nat → Nat
 | 0, _ => 0
 | n + 1, id => deepGo (deepF l n) (kidsAt l ((atI l id).getD 0)) 0
def treeKids (l : List Row) : List Nat → Nat → Option Nat
 | [], n => some n
 | k :: ks, n => if atI l k = none ∨ k = 1 then none else treeKids l ks (n + 1)
def treeRows (l : List Row) : List Row → Nat → Option Nat
 | [], n => some n
 | r :: rs, n => if r.node.ref ≠ 0 ∧ atI l r.node.ref = none then none else
   match treeKids l r.node.kids n with
   | none => none
   | some n => treeRows l rs n
def tree (l : List Row) : Bool :=
 match atI l 1 with
 | none => false
 | some k => if (rowAt l k).node.kind ≠ 1 ∨ (walk l 1).length ≠ l.length then false else
   match treeRows l l 0 with
   | none => false
   | some n => decide (n + 1 = l.length) && decide (0 < deepF l 200 1)
def isExpr (kind : Nat) : Bool := decide (13 ≤ kind) && decide (kind ≤ 20)
def classOf (kind : Nat) : UInt8 :=
 if kind = 19 then 67 else if isExpr kind then 69 else if kind = 10 then 82 else if 6 ≤ kind ∧ kind ≤ 12 then 83 else if kind = 5 then 66 else if kind = 4 then 80 else if kind = 3 then 70 else if kind = 2 then 77 else 88
def only (s letters : Str) : Bool := s.all (fun c => letters.any (fun x => c == x))
def fits (kind : Nat) (s : Str) (body : Bool) : Bool :=
 if kind = 1 then only s [77]
 else if kind = 2 then only s [70]
 else if kind = 3 then decide (0 < s.length) && only (s.take (s.length - 1)) [80] && s.drop (s.length - 1) == [66]
 else if kind = 5 then (if body then decide (0 < s.length) && only (s.take (s.length - 1)) [83] && s.drop (s.length - 1) == [82] else only s [83])
 else if kind = 6 ∨ kind = 7 ∨ kind = 10 ∨ kind = 11 ∨ kind = 16 ∨ kind = 17 then decide (s.length = 1) && only s [69, 67]
 else if kind = 8 then decide (s.length = 3) && only (s.take 1) [69, 67] && s.drop 1 == [66, 66]
 else if kind = 9 then decide (s.length = 2) && only (s.take 1) [69, 67] && s.drop 1 == [66]
 else if kind = 12 then s == [67]
 else if kind = 18 then decide (s.length = 2) && only s [69, 67]
 else if kind = 19 then only s [69, 67]
 else decide (s.length = 0)
def kindOf (l : List Row) (id : Nat) : Nat := (nodeOf l id).kind
def classes (l : List Row) (kids : List Nat) : Str := kids.map (fun k => classOf (kindOf l k))
def isNamed (k : Nat) : Bool := decide (k = 2) || decide (k = 3) || decide (k = 4) || decide (k = 6)
def shapedRow (l : List Row) (r : Row) : Bool :=
 let n := r.node
 if n.kind < 1 ∨ 20 < n.kind ∨ decide (n.kind = 1) ≠ decide (r.id = 1) ∨ fits n.kind (classes l n.kids) (decide (kindOf l (parentOf l r.id).1 = 3)) = false then false
 else if isNamed n.kind ≠ (n.name != []) ∨ isNamed n.kind = true ∧ (r8name n.name = false ∨ inL words n.name = true) then false
 else if (isNamed n.kind && decide (n.kind ≠ 2)) ≠ (decide (n.type = 1) || decide (n.type = 2)) ∨ (isNamed n.kind && decide (n.kind ≠ 2)) = false ∧ n.type ≠ 0 then false
 else if n.kind = 7 ∨ n.kind = 15 then
  (if kindOf l n.ref ≠ 4 ∧ kindOf l n.ref ≠ 6 then false else decide (n.num = 0))
 else if n.kind = 19 then
  (if kindOf l n.ref ≠ 3 then false else decide (n.num = 0))
 else if n.ref ≠ 0 then false
 else if n.kind = 13 then decide (0 ≤ n.num)
 else if n.kind = 14 then decide (0 ≤ n.num ∧ n.num ≤ 1)
 else if n.kind = 18 then decide (1 ≤ n.num ∧ n.num ≤ 13)
 else decide (n.num = 0)
def depthGo (l : List Row) (D : Nat → Option Nat) (kind : Nat) : List Nat → Nat → Option Nat
 | [], most => some (if 16 ≤ kind ∧ kind ≤ 19 then most + 1 else most)
 | k :: ks, most =>
   match D k with
   | none => none
   | some d => depthGo l D kind ks (max most (if kindOf l k = 5 ∧ kind ≠ 3 then d + 1 else d))
def depthF (l : List Row) : Nat → Nat → Option Nat
 | 0, _ => none
 | f + 1, id => depthGo l (depthF l f) (kindOf l id) (nodeOf l id).kids 0
def shapedDeep (l : List Row) : List Row → Option Bool
 | [] => some true
 | r :: rs => if r.node.kind = 3 then
     (match depthF l 201 r.id with
      | none => none
      | some d => if 90 < d then some false else shapedDeep l rs)
   else shapedDeep l rs
def shapedGo (l : List Row) : List Row → Bool
 | [] => true
 | r :: rs => if shapedRow l r = false then false else shapedGo l rs
def shaped (l : List Row) : Option Bool := if tree l = false then some false else if shapedGo l l = false then some false else shapedDeep l l
def wMain : Str := [109, 97, 105, 110]
end Hg
namespace Hg
theorem deepGo_pos (D : Nat → Nat) : ∀ (ks : List Nat) (m : Nat), 0 < deepGo D ks m ↔ ∀ k ∈ ks, 0 < D k
 | [], m => by simp [deepGo]
 | k :: ks, m => by
   rw [deepGo]
   by_cases h : D k = 0
   ·
    rw [if_pos h]; simp [h]
   ·
    rw [if_neg h, deepGo_pos D ks]
    simp only [List.mem_cons, forall_eq_or_imp]
    exact ⟨fun x => ⟨by omega, x⟩, fun x => x.2⟩
theorem deepF_pos (l : List Row) (n id : Nat) : 0 < deepF l (n + 1) id ↔ ∀ k ∈ kidsAt l ((atI l id).getD 0), 0 < deepF l n k := by
 rw [deepF, deepGo_pos]
theorem deepF_mono (l : List Row) : ∀ (n id : Nat), 0 < deepF l n id → 0 < deepF l (n + 1) id
 | 0, id, h => by simp [deepF] at h
 | n + 1, id, h => by
   rw [deepF_pos] at h ⊢
   exact fun k hk => deepF_mono l n k (h k hk)
def Good (l : List Row) (id : Nat) : Prop := 0 < deepF l 200 id
theorem Good.kid {l : List Row} {id k : Nat} (h : Good l id) (hk : k ∈ kidsAt l ((atI l id).getD 0)) : Good l k :=
 deepF_mono l 199 k ((deepF_pos l 199 id).1 h k hk)
end Hg
namespace Hg
structure RS where
 e : Nat
 used : Nat
 trace : List Int
 nc : Nat
structure RV where
 v : Nat → Int
 c : Nat
def RV.set (V : RV) (id : Nat) (x : Int) : RV := ⟨fun i => if i = id then x else V.v i, V.c + 1⟩
structure RC where
 M : Nat → Option Node
 fuel : Nat
def RC.nd (C : RC) (id : Nat) : Node := (C.M id).getD Node.zero
def RS.ask (s : RS) : RS := { s with nc := s.nc + 1 }
def rwrap (x : Int) : Int := (x + 9223372036854775808) % 18446744073709551616 - 9223372036854775808
def RC.burn (C : RC) (s : RS) : Bool × RS :=
 if s.e = 0 then (if C.fuel ≤ s.used then (false, { s with e := 2 }) else (true, { s with used := s.used + 1 })) else (false, s)
def rOne (b : Bool) : Int := if b then 1 else 0
def rEval (op x y : Int) : Int := if op = 1 then rwrap (x + y) else rOne (decide (x < y))
def RC.expr (C : RC) (V : RV) : Nat → Nat → RS → Option (Int × RS)
 | 0, _, _ => none
 | d + 1, id, s =>
   if s.e ≠ 0 ∨ 18446744073709551616 ≤ id ∨ 1000000 ≤ s.nc then none
   else if (C.nd id).kind = 13 then some ((C.nd id).num, s.ask)
   else if (C.nd id).kind = 15 then some (V.v (C.nd id).ref, s.ask)
   else if (C.nd id).kind = 18 ∧ ((C.nd id).num = 1 ∨ (C.nd id).num = 6) ∧ (C.nd id).kids.length = 2 then
    (C.expr V d ((C.nd id).kids.getD 0 0) s.ask).bind fun (x, s) => (C.expr V d ((C.nd id).kids.getD 1 0) s).bind fun (y, s) => some (rEval (C.nd id).num x y, s)
   else none
mutual
def RC.block (C : RC) : Nat → Nat → RV → RS → Option (Int × RV × RS)
 | 0, _, _, _ => none
 | d + 1, id, V, s => if 18446744073709551616 ≤ id ∨ 1000000 ≤ s.nc then none else C.stmts d (C.nd id).kids 0 V s.ask
def RC.stmts (C : RC) : Nat → List Nat → Int → RV → RS → Option (Int × RV × RS)
 | 0, _, _, _, _ => none
 | _ + 1, [], out, V, s => some (out, V, s)
 | d + 1, i :: l, _, V, s => if s.e ≠ 0 then some (0, V, s) else (C.stmt d i V s).bind fun (o, V, s) => C.stmts d l o V s
def RC.stmt (C : RC) : Nat → Nat → RV → RS → Option (Int × RV × RS)
 | 0, _, _, _ => none
 | d + 1, id, V, s =>
   if 18446744073709551616 ≤ id ∨ 1000000 ≤ s.nc ∨ s.e ≠ 0 ∨ 1000000 ≤ V.c then none
   else if (C.nd id).kind = 9 then (if (C.nd id).kids.length = 2 then C.loop d ((C.nd id).kids.getD 0 0) ((C.nd id).kids.getD 1 0) V s.ask else none)
   else if (C.burn s.ask).1 = false then some (0, V, (C.burn s.ask).2)
   else if (C.nd id).kids.length = 1 then
    (C.expr V d ((C.nd id).kids.getD 0 0) (C.burn s.ask).2).bind fun (x, s) =>
     if (C.nd id).kind = 6 then some (0, V.set id x, s)
     else if (C.nd id).kind = 7 then some (0, V.set (C.nd id).ref x, s)
     else if (C.nd id).kind = 11 ∧ s.trace.length < 1000000 then some (0, V, { s with trace := s.trace ++ [x] })
     else if (C.nd id).kind = 10 then some (x, V, s)
     else none
   else none
def RC.loop (C : RC) : Nat → Nat → Nat → RV → RS → Option (Int × RV × RS)
 | 0, _, _, _, _ => none
 | d + 1, c, b, V, s =>
   if (C.burn s).1 = false then some (0, V, (C.burn s).2)
   else (C.expr V d c (C.burn s).2).bind fun (x, s) =>
    if x = 0 then some (0, V, s) else (C.block d b V s).bind fun (_, V, s) => C.loop d c b V s
end
def RC.call (C : RC) (d f : Nat) (s : RS) : Option (Int × RS) :=
 if (C.burn s).1 = false then some (0, (C.burn s).2)
 else if 18446744073709551616 ≤ f ∨ 1000000 ≤ (C.burn s).2.nc ∨ (C.nd f).kids = [] then none
 else (C.block d ((C.nd f).kids.getD ((C.nd f).kids.length - 1) 0) ⟨fun _ => 0, 0⟩ (C.burn s).2.ask).map fun (x, _, s) => (x, s)
end Hg
namespace Hg
def loopM (n : Nat) : Nat → Option Node
 | 1 => some ⟨1, [], 0, 0, 0, [2]⟩
 | 2 => some ⟨2, [109, 97, 105, 110], 0, 0, 0, [3]⟩
 | 3 => some ⟨3, [109, 97, 105, 110], 0, 1, 0, [4]⟩
 | 4 => some ⟨5, [], 0, 0, 0, [5, 7, 18]⟩
 | 5 => some ⟨6, [105], 0, 1, 0, [6]⟩
 | 6 => some ⟨13, [], 0, 0, 0, []⟩
 | 7 => some ⟨9, [], 0, 0, 0, [8, 11]⟩
 | 8 => some ⟨18, [], 6, 0, 0, [9, 10]⟩
 | 9 => some ⟨15, [], 0, 0, 5, []⟩
 | 10 => some ⟨13, [], (n : Int), 0, 0, []⟩
 | 11 => some ⟨5, [], 0, 0, 0, [12, 16]⟩
 | 12 => some ⟨7, [], 0, 0, 5, [13]⟩
 | 13 => some ⟨18, [], 1, 0, 0, [14, 15]⟩
 | 14 => some ⟨15, [], 0, 0, 5, []⟩
 | 15 => some ⟨13, [], 1, 0, 0, []⟩
 | 16 => some ⟨11, [], 0, 0, 0, [17]⟩
 | 17 => some ⟨15, [], 0, 0, 5, []⟩
 | 18 => some ⟨10, [], 0, 0, 0, [19]⟩
 | 19 => some ⟨15, [], 0, 0, 5, []⟩
 | _ => none
theorem rwrap_in {x : Int} (h : -9223372036854775808 ≤ x) (h2 : x ≤ 9223372036854775807) : rwrap x = x := by unfold rwrap; omega
variable {n f : Nat}
def LC (n f : Nat) : RC := ⟨loopM n, f⟩
theorem LC_nd (id : Nat) : (LC n f).nd id = (loopM n id).getD Node.zero := rfl
theorem burn_ok {s : RS} (he : s.e = 0) (hu : s.used < f) : (LC n f).burn s = (true, { s with used := s.used + 1 }) := by
 unfold RC.burn LC
 rw [if_pos he, if_neg (by simpa using hu)]
theorem burn_no {s : RS} (he : s.e = 0) (hu : f ≤ s.used) : (LC n f).burn s = (false, { s with e := 2 }) := by
 unfold RC.burn LC
 rw [if_pos he, if_pos (by simpa using hu)]
theorem expr_int {V : RV} {d id : Nat} {s : RS} (he : s.e = 0) (hc : s.nc < 1000000) {nd : Node} (h : loopM n id = some nd) (hi : id < 18446744073709551616) (hk : nd.kind = 13) : (LC n f).expr V (d + 1) id s = some (nd.num, s.ask) := by
 unfold RC.expr
 rw [if_neg (by omega), LC_nd, h]
 simp [hk]
theorem expr_var {V : RV} {d id : Nat} {s : RS} (he : s.e = 0) (hc : s.nc < 1000000) {nd : Node} (h : loopM n id = some nd) (hi : id < 18446744073709551616) (hk : nd.kind = 15) : (LC n f).expr V (d + 1) id s = some (V.v nd.ref, s.ask) := by
 unfold RC.expr
 rw [if_neg (by omega), LC_nd, h]
 simp [hk]
theorem expr_bin {V : RV} {d id : Nat} {s : RS} (he : s.e = 0) (hc : s.nc < 1000000) {nd : Node} (h : loopM n id = some nd) (hi : id < 18446744073709551616) (hk : nd.kind = 18) (hn : nd.num = 1 ∨ nd.num = 6) {a b : Nat} (hl : nd.kids = [a, b]) {x y : Int} {s1 s2 : RS}
 (h1 : (LC n f).expr V d a s.ask = some (x, s1)) (h2 : (LC n f).expr V d b s1 = some (y, s2)) : (LC n f).expr V (d + 1) id s = some (rEval nd.num x y, s2) := by
 unfold RC.expr
 rw [if_neg (by omega), LC_nd, h]
 simp [hk, hn, hl, h1, h2]
theorem ask_used (s : RS) : s.ask.used = s.used := rfl
theorem ask_nc (s : RS) : s.ask.nc = s.nc + 1 := rfl
theorem ask_trace (s : RS) : s.ask.trace = s.trace := rfl
theorem stmt_no {V : RV} {d id : Nat} {s : RS} (he : s.e = 0) (hc : s.nc < 1000000) (hv : V.c < 1000000) {nd : Node} (h : loopM n id = some nd) (hi : id < 18446744073709551616) (hk : nd.kind ≠ 9) (hu : f ≤ s.used) :
 (LC n f).stmt (d + 1) id V s = some (0, V, { s.ask with e := 2 }) := by
 unfold RC.stmt
 rw [if_neg (by omega), LC_nd, h, burn_no (by exact he) (by exact hu)]
 simp [hk]
theorem stmt_go {V : RV} {d id : Nat} {s : RS} (he : s.e = 0) (hc : s.nc < 1000000) (hv : V.c < 1000000) {nd : Node} (h : loopM n id = some nd) (hi : id < 18446744073709551616) (hk : nd.kind ≠ 9) (hu : s.used < f) {k : Nat} (hl : nd.kids = [k])
 {x : Int} {s1 : RS} (hx : (LC n f).expr V d k { s.ask with used := s.used + 1 } = some (x, s1)) :
 (LC n f).stmt (d + 1) id V s = if nd.kind = 6 then some (0, V.set id x, s1) else if nd.kind = 7 then some (0, V.set nd.ref x, s1) else if nd.kind = 11 ∧ s1.trace.length < 1000000 then some (0, V, { s1 with trace := s1.trace ++ [x] }) else if nd.kind = 10 then some (x, V, s1) else none := by
 unfold RC.stmt
 rw [if_neg (by omega), LC_nd, h, burn_ok (by exact he) (by exact hu)]
 simp only [Option.getD_some, hk, false_and, if_false, hl, List.length_singleton, Bool.true_eq_false, List.getD_cons_zero, if_true, ask_used]
 rw [hx]
 rfl
theorem stmts_stop {V : RV} {d : Nat} {l : List Nat} {s : RS} {o : Int} (he : s.e ≠ 0) (hl : l ≠ []) : (LC n f).stmts (d + 1) l o V s = some (0, V, s) := by
 cases l with
 | nil => exact absurd rfl hl
 | cons a l => unfold RC.stmts; rw [if_pos he]
theorem stmts_nil {V : RV} {d : Nat} {s : RS} {o : Int} : (LC n f).stmts (d + 1) [] o V s = some (o, V, s) := by unfold RC.stmts; rfl
theorem stmts_cons {V V1 : RV} {d i : Nat} {l : List Nat} {s s1 : RS} {o o1 : Int} (he : s.e = 0) (h : (LC n f).stmt d i V s = some (o1, V1, s1)) : (LC n f).stmts (d + 1) (i :: l) o V s = (LC n f).stmts d l o1 V1 s1 := by
 rw [RC.stmts, if_neg (by simpa using he), h]
 rfl
theorem block_eq {V : RV} {d id : Nat} {s : RS} (hc : s.nc < 1000000) {nd : Node} (h : loopM n id = some nd) (hi : id < 18446744073709551616) : (LC n f).block (d + 1) id V s = (LC n f).stmts d nd.kids 0 V s.ask := by
 unfold RC.block
 rw [if_neg (by omega), LC_nd, h]
 rfl
theorem body_run {V : RV} {s : RS} {d : Nat} {i : Int} (he : s.e = 0) (hc : s.nc + 10 < 1000000) (hv : V.v 5 = i) (hi : -9223372036854775808 ≤ i + 1) (hi2 : i + 1 ≤ 9223372036854775807) (hvc : V.c + 2 < 1000000) (hl : s.trace.length < 1000000) :
 (f ≤ s.used ∧ (LC n f).block (d + 8) 11 V s = some (0, V, { s with e := 2, nc := s.nc + 2 })) ∨
 (f = s.used + 1 ∧ (LC n f).block (d + 8) 11 V s = some (0, V.set 5 (i + 1), { s with e := 2, used := s.used + 1, nc := s.nc + 6 })) ∨
 (s.used + 2 ≤ f ∧ (LC n f).block (d + 8) 11 V s = some (0, V.set 5 (i + 1), { s with used := s.used + 2, nc := s.nc + 7, trace := s.trace ++ [i + 1] })) := by
 rw [block_eq (by omega) (nd := ⟨5, [], 0, 0, 0, [12, 16]⟩) rfl (by omega)]
 rcases Nat.lt_or_ge s.used f with hu | hu
 ·
  have h13 : (LC n f).expr V (d + 5) 13 { s.ask.ask with used := s.used + 1 } = some (i + 1, { s with used := s.used + 1, nc := s.nc + 5 }) := by
   have h14 := expr_var (n := n) (f := f) (V := V) (d := d + 3) (id := 14) (s := RS.ask { s.ask.ask with used := s.used + 1 }) (by exact he) (by simp [RS.ask]; omega) (nd := ⟨15, [], 0, 0, 5, []⟩) rfl (by omega) rfl
   have h15 := expr_int (n := n) (f := f) (V := V) (d := d + 3) (id := 15) (s := RS.ask (RS.ask { s.ask.ask with used := s.used + 1 })) (by exact he) (by simp [RS.ask]; omega) (nd := ⟨13, [], 1, 0, 0, []⟩) rfl (by omega) rfl
   rw [expr_bin (d := d + 4) (by exact he) (by simp [RS.ask]; omega) (nd := ⟨18, [], 1, 0, 0, [14, 15]⟩) rfl (by omega) rfl (.inl rfl) rfl h14 h15]
   simp only [rEval, if_pos, hv]
   rw [rwrap_in hi hi2]
   simp [RS.ask]
  have h12 := stmt_go (n := n) (f := f) (V := V) (d := d + 5) (id := 12) (s := s.ask) (by exact he) (by simp [RS.ask]; omega) (by omega) (nd := ⟨7, [], 0, 0, 5, [13]⟩) rfl (by omega) (by decide) (by exact hu) rfl h13
  simp only [show ¬ (7 : Nat) = 6 by decide, if_false, if_true] at h12
  rw [stmts_cons (d := d + 6) (by exact he) h12]
  rcases Nat.lt_or_ge (s.used + 1) f with hu2 | hu2
  ·
   right; right
   refine ⟨by omega, ?_⟩
   have h17 : (LC n f).expr (V.set 5 (i + 1)) (d + 4) 17 { RS.ask { s with used := s.used + 1, nc := s.nc + 5 } with used := s.used + 1 + 1 } = some (i + 1, { s with used := s.used + 2, nc := s.nc + 7 }) := by
    rw [expr_var (d := d + 3) (by exact he) (by simp [RS.ask]; omega) (nd := ⟨15, [], 0, 0, 5, []⟩) rfl (by omega) rfl]
    simp [RS.ask, RV.set]
   have h16 := stmt_go (n := n) (f := f) (V := V.set 5 (i + 1)) (d := d + 4) (id := 16) (s := { s with used := s.used + 1, nc := s.nc + 5 }) (by exact he) (by simp; omega) (by simp [RV.set]; omega) (nd := ⟨11, [], 0, 0, 0, [17]⟩) rfl (by omega) (by decide) (by exact hu2) rfl h17
   simp only [show ¬ (11 : Nat) = 6 by decide, show ¬ (11 : Nat) = 7 by decide, if_false, true_and, if_pos hl] at h16
   rw [stmts_cons (d := d + 5) (by exact he) h16, stmts_nil]
  ·
   right; left
   refine ⟨by omega, ?_⟩
   have h16 := stmt_no (n := n) (f := f) (V := V.set 5 (i + 1)) (d := d + 4) (id := 16) (s := { s with used := s.used + 1, nc := s.nc + 5 }) (by exact he) (by simp; omega) (by simp [RV.set]; omega) (nd := ⟨11, [], 0, 0, 0, [17]⟩) rfl (by omega) (by decide) (by exact hu2)
   rw [stmts_cons (d := d + 5) (by exact he) h16, stmts_nil]
   simp [RS.ask]
 ·
  left
  refine ⟨hu, ?_⟩
  have h12 := stmt_no (n := n) (f := f) (V := V) (d := d + 5) (id := 12) (s := s.ask) (by exact he) (by simp [RS.ask]; omega) (by omega) (nd := ⟨7, [], 0, 0, 5, [13]⟩) rfl (by omega) (by decide) (by exact hu)
  rw [stmts_cons (d := d + 6) (by exact he) h12, stmts_stop (d := d + 5) (by simp) (by simp)]
  simp [RS.ask]
theorem loop_dead {V : RV} {d c b : Nat} {s : RS} (he : s.e ≠ 0) : (LC n f).loop (d + 1) c b V s = some (0, V, s) := by
 have hb : (LC n f).burn s = (false, s) := by unfold RC.burn; rw [if_neg he]
 unfold RC.loop
 rw [hb]
 rfl
theorem cond_run {V : RV} {s : RS} {d i : Nat} (he : s.e = 0) (hc : s.nc + 10 < 1000000) (hv : V.v 5 = (i : Int)) : (LC n f).expr V (d + 3) 8 s = some (rOne (decide ((i : Int) < (n : Int))), { s with nc := s.nc + 3 }) := by
 have h9 := expr_var (n := n) (f := f) (V := V) (d := d + 1) (id := 9) (s := s.ask) (by exact he) (by simp [RS.ask]; omega) (nd := ⟨15, [], 0, 0, 5, []⟩) rfl (by omega) rfl
 have h10 := expr_int (n := n) (f := f) (V := V) (d := d + 1) (id := 10) (s := s.ask.ask) (by exact he) (by simp [RS.ask]; omega) (nd := ⟨13, [], (n : Int), 0, 0, []⟩) rfl (by omega) rfl
 rw [expr_bin (d := d + 2) he (by omega) (nd := ⟨18, [], 6, 0, 0, [9, 10]⟩) rfl (by omega) rfl (.inr rfl) rfl h9 h10]
 simp only [rEval, hv, show ¬ (6 : Int) = 1 by decide, if_false]
 simp [RS.ask]
theorem loop_run : ∀ (k : Nat) (V : RV) (s : RS) (i d : Nat), s.e = 0 → V.v 5 = (i : Int) → i + k = n → n ≤ 255 → s.used ≤ f → s.nc + 20 * (k + 1) < 1000000 → V.c + 3 * (k + 1) < 1000000 → s.trace.length + k < 1000000 →
 (s.used + 3 * k + 1 ≤ f ∧ ∃ V' s', (LC n f).loop (d + k + 10) 8 11 V s = some (0, V', s') ∧ s'.e = 0 ∧ s'.used = s.used + 3 * k + 1 ∧ s'.trace.length = s.trace.length + k ∧ s'.nc = s.nc + 10 * k + 3 ∧ V'.v 5 = (n : Int) ∧ V'.c = V.c + k) ∨
 (f < s.used + 3 * k + 1 ∧ ∃ V' s', (LC n f).loop (d + k + 10) 8 11 V s = some (0, V', s') ∧ s'.e = 2 ∧ s'.used = f ∧ s'.trace.length ≤ s.trace.length + k)
 | 0, V, s, i, d, he, hv, hi, hn, hu, hc, hvc, hl => by
   rcases Nat.lt_or_ge s.used f with h | h
   ·
    left
    refine ⟨by omega, V, { s with used := s.used + 1, nc := s.nc + 3 }, ?_, he, rfl, by simp, by simp, by rw [hv]; omega, by simp⟩
    rw [show d + 0 + 10 = (d + 9) + 1 by omega, RC.loop, burn_ok he h]
    have hcr := cond_run (n := n) (f := f) (V := V) (s := { s with used := s.used + 1 }) (d := d + 6) (i := i) he (by simp; omega) hv
    rw [show d + 6 + 3 = d + 9 by omega] at hcr
    simp only [Bool.true_eq_false, if_false]
    rw [hcr]
    have : ¬ (i : Int) < (n : Int) := by omega
    simp [rOne, this]
   ·
    right
    refine ⟨by omega, V, { s with e := 2 }, ?_, rfl, by show s.used = f; omega, by simp⟩
    rw [show d + 0 + 10 = (d + 9) + 1 by omega, RC.loop, burn_no he h]
    simp
 | k + 1, V, s, i, d, he, hv, hi, hn, hu, hc, hvc, hl => by
   rw [show d + (k + 1) + 10 = (d + k + 10) + 1 by omega]
   rcases Nat.lt_or_ge s.used f with h | h
   ·
    have hcr := cond_run (n := n) (f := f) (V := V) (s := { s with used := s.used + 1 }) (d := d + k + 7) (i := i) he (by simp; omega) hv
    rw [show d + k + 7 + 3 = d + k + 10 by omega] at hcr
    have hlt : (i : Int) < (n : Int) := by omega
    have hb := body_run (n := n) (f := f) (V := V) (s := { s with used := s.used + 1, nc := s.nc + 3 }) (d := d + k + 2) (i := (i : Int)) he (by simp; omega) hv (by omega) (by omega) (by omega) (by simp; omega)
    rw [show d + k + 2 + 8 = d + k + 10 by omega] at hb
    have hstep : ∀ V1 s1, (LC n f).block (d + k + 10) 11 V { s with used := s.used + 1, nc := s.nc + 3 } = some (0, V1, s1) → (LC n f).loop (d + k + 10 + 1) 8 11 V s = (LC n f).loop (d + k + 10) 8 11 V1 s1 := by
     intro V1 s1 hbl
     rw [RC.loop, burn_ok he h]
     simp only [Bool.true_eq_false, if_false]
     rw [hcr]
     simp only [Option.bind_some, rOne, hlt, decide_true, if_true, show ¬ (1 : Int) = 0 by decide, if_false]
     rw [hbl]
     rfl
    rcases hb with ⟨h1, hbl⟩ | ⟨h1, hbl⟩ | ⟨h1, hbl⟩
    ·
     right
     simp at h1
     refine ⟨by omega, V, _, (hstep _ _ hbl).trans (loop_dead (d := d + k + 9) (by simp)), rfl, by simp; omega, by simp⟩
    ·
     right
     simp at h1
     refine ⟨by omega, _, _, (hstep _ _ hbl).trans (loop_dead (d := d + k + 9) (by simp)), rfl, by simp; omega, by simp⟩
    ·
     simp at h1
     have ih := loop_run k (V.set 5 ((i : Int) + 1)) { s with used := s.used + 1 + 2, nc := s.nc + 3 + 7, trace := s.trace ++ [(i : Int) + 1] } (i + 1) d he (by simp [RV.set]) (by omega) hn (by simp; omega) (by simp; omega) (by simp [RV.set]; omega) (by simp; omega)
     rw [hstep _ _ hbl]
     simp only [List.length_append, List.length_singleton] at ih
     rcases ih with ⟨q1, V', s', q2, q3, q4, q5, q6, q7, q8⟩ | ⟨q1, V', s', q2, q3, q4, q5⟩
     ·
      exact .inl ⟨by omega, V', s', q2, q3, by omega, by omega, by omega, q7, by rw [q8]; simp [RV.set]; omega⟩
     ·
      exact .inr ⟨by omega, V', s', q2, q3, q4, by omega⟩
   ·
    right
    refine ⟨by omega, V, { s with e := 2 }, ?_, rfl, by show s.used = f; omega, by simp⟩
    rw [RC.loop, burn_no he h]
    simp
theorem stmt_while {V : RV} {d id : Nat} {s : RS} (he : s.e = 0) (hc : s.nc < 1000000) (hv : V.c < 1000000) {nd : Node} (h : loopM n id = some nd) (hi : id < 18446744073709551616) (hk : nd.kind = 9) {a b : Nat} (hl : nd.kids = [a, b]) :
 (LC n f).stmt (d + 1) id V s = (LC n f).loop d a b V s.ask := by
 unfold RC.stmt
 rw [if_neg (by omega), LC_nd, h]
 simp [hk, hl]
def rs0 : RS := ⟨0, 0, [], 0⟩
def rv0 : RV := ⟨fun _ => 0, 0⟩
theorem call_eq {d : Nat} {s : RS} (he : s.e = 0) (hu : s.used < f) (hc : s.nc < 1000000) : (LC n f).call d 3 s = ((LC n f).block d 4 rv0 (RS.ask { s with used := s.used + 1 })).map fun (x, _, s) => (x, s) := by
 unfold RC.call
 rw [burn_ok he hu]
 simp only [Bool.true_eq_false, if_false]
 rw [if_neg (by rw [LC_nd]; simp [loopM]; omega)]
 rfl
theorem call_run (hn : n ≤ 255) : ∃ x s, (LC n f).call (n + 20) 3 rs0 = some (x, s) ∧
 ((4 + 3 * n ≤ f ∧ s.e = 0 ∧ s.used = 4 + 3 * n ∧ x = (n : Int) ∧ s.trace.length = n) ∨ (f < 4 + 3 * n ∧ s.e = 2 ∧ s.used = f ∧ s.trace.length ≤ n)) := by
 rcases Nat.eq_zero_or_pos f with hf | hf
 ·
  subst hf
  refine ⟨0, { rs0 with e := 2 }, ?_, .inr ⟨by omega, rfl, rfl, by simp [rs0]⟩⟩
  unfold RC.call
  rw [burn_no rfl (by simp [rs0])]
  simp
 ·
  rw [call_eq rfl (by simpa [rs0] using hf) (by simp [rs0])]
  rw [show n + 20 = (n + 19) + 1 by omega, block_eq (by simp [rs0, RS.ask]) (nd := ⟨5, [], 0, 0, 0, [5, 7, 18]⟩) rfl (by omega)]
  show ∃ x s, Option.map _ ((LC n f).stmts (n + 19) [5, 7, 18] 0 rv0 ⟨0, 1, [], 2⟩) = some (x, s) ∧ _
  rcases Nat.lt_or_ge 1 f with h1 | h1
  ·
   have h6 : (LC n f).expr rv0 (n + 17) 6 { RS.ask ⟨0, 1, [], 2⟩ with used := (RS.mk 0 1 [] 2).used + 1 } = some (0, ⟨0, 2, [], 4⟩) :=
    expr_int (n := n) (f := f) (V := rv0) (d := n + 16) (id := 6) (by rfl) (by simp [RS.ask]) (nd := ⟨13, [], 0, 0, 0, []⟩) rfl (by omega) rfl
   have h5 := stmt_go (n := n) (f := f) (V := rv0) (d := n + 17) (id := 5) (s := ⟨0, 1, [], 2⟩) rfl (by simp) (by simp [rv0]) (nd := ⟨6, [105], 0, 1, 0, [6]⟩) rfl (by omega) (by decide) (by exact h1) rfl h6
   simp only [if_true] at h5
   rw [stmts_cons (d := n + 18) rfl h5]
   have h7 := stmt_while (n := n) (f := f) (V := rv0.set 5 0) (d := n + 16) (id := 7) (s := ⟨0, 2, [], 4⟩) rfl (by simp) (by simp [rv0, RV.set]) (nd := ⟨9, [], 0, 0, 0, [8, 11]⟩) rfl (by omega) rfl rfl
   have hl := loop_run (n := n) (f := f) n (rv0.set 5 0) (RS.ask ⟨0, 2, [], 4⟩) 0 6 rfl (by simp [rv0, RV.set]) (by omega) hn (by simp [RS.ask]; omega) (by simp [RS.ask]; omega) (by simp [rv0, RV.set]; omega) (by simp [RS.ask]; omega)
   rw [show 6 + n + 10 = n + 16 by omega] at hl
   simp only [ask_used, ask_nc, ask_trace, List.length_nil] at hl
   rcases hl with ⟨q1, V', s', q2, q3, q4, q5, q6, q7, q8⟩ | ⟨q1, V', s', q2, q3, q4, q5⟩
   ·
    rw [stmts_cons (d := n + 17) rfl (h7.trans q2)]
    have hvc : V'.c < 1000000 := by rw [q8]; simp [rv0, RV.set]; omega
    rcases Nat.lt_or_ge s'.used f with h2 | h2
    ·
     have h19 : (LC n f).expr V' (n + 15) 19 { s'.ask with used := s'.used + 1 } = some ((n : Int), RS.ask { s'.ask with used := s'.used + 1 }) := by
      rw [expr_var (d := n + 14) (by exact q3) (by simp [RS.ask]; omega) (nd := ⟨15, [], 0, 0, 5, []⟩) rfl (by omega) rfl]
      rw [q7]
     have h18 := stmt_go (n := n) (f := f) (V := V') (d := n + 15) (id := 18) (s := s') q3 (by omega) hvc (nd := ⟨10, [], 0, 0, 0, [19]⟩) rfl (by omega) (by decide) h2 rfl h19
     simp only [show ¬ (10 : Nat) = 6 by decide, show ¬ (10 : Nat) = 7 by decide, show ¬ (10 : Nat) = 11 by decide, false_and, if_false, if_true] at h18
     rw [stmts_cons (d := n + 16) q3 h18, stmts_nil]
     exact ⟨_, _, rfl, .inl ⟨by omega, q3, by simp [RS.ask]; omega, rfl, by simp [RS.ask]; omega⟩⟩
    ·
     have h18 := stmt_no (n := n) (f := f) (V := V') (d := n + 15) (id := 18) (s := s') q3 (by omega) hvc (nd := ⟨10, [], 0, 0, 0, [19]⟩) rfl (by omega) (by decide) h2
     rw [stmts_cons (d := n + 16) q3 h18, stmts_nil]
     exact ⟨_, _, rfl, .inr ⟨by omega, rfl, by simp [RS.ask]; omega, by simp [RS.ask]; omega⟩⟩
   ·
    rw [stmts_cons (d := n + 17) rfl (h7.trans q2), stmts_stop (d := n + 16) (by omega) (by simp)]
    exact ⟨_, _, rfl, .inr ⟨by omega, q3, q4, by omega⟩⟩
  ·
   have h5 := stmt_no (n := n) (f := f) (V := rv0) (d := n + 17) (id := 5) (s := ⟨0, 1, [], 2⟩) rfl (by simp) (by simp [rv0]) (nd := ⟨6, [105], 0, 1, 0, [6]⟩) rfl (by omega) (by decide) (by exact h1)
   rw [stmts_cons (d := n + 18) rfl h5, stmts_stop (d := n + 17) (by simp) (by simp)]
   exact ⟨_, _, rfl, .inr ⟨by omega, rfl, by simp [RS.ask]; omega, by simp [RS.ask]⟩⟩
end Hg
