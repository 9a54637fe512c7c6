/-
  Part of a proof: contracts of functions that the claim reaches, and plain lemmas.
-/
set_option linter.all false
namespace Hg
abbrev Str := List UInt8
structure Tok where
 kind : Nat
 text : Str
 pos : Nat
deriving Inhabited, DecidableEq
structure Node where
 kind : Nat
 name : Str
 num : Int
 type : Nat
 ref : Nat
 kids : List Nat
deriving Inhabited, DecidableEq
structure Row where
 id : Nat
 node : Node
deriving Inhabited, DecidableEq
def Node.zero : Node := ⟨0, [], 0, 0, 0, []⟩
def cls (c : UInt8) : Nat :=
 if (97 ≤ c.toNat ∧ c.toNat ≤ 122) ∨ (65 ≤ c.toNat ∧ c.toNat ≤ 90) ∨ c.toNat = 95 then 1
 else if 48 ≤ c.toNat ∧ c.toNat ≤ 57 then 2
 else if c.toNat = 32 ∨ c.toNat = 9 ∨ c.toNat = 10 then 3 else 0
def isPart (c : UInt8) : Bool := cls c == 1 || cls c == 2
def inL (l : List Str) (s : Str) : Bool := l.any (· == s)
def r8name (s : Str) : Bool :=
 match s with
 | [] => false
 | c :: _ => s.length ≤ 64 && cls c == 1 && s.all isPart
def valOf (s : Str) : Nat := s.foldl (fun n c => 10 * n + (c.toNat - 48)) 0
def r8number (s : Str) : Int :=
 match s with
 | [] => -1
 | c :: r =>
   if 19 < s.length ∨ (c.toNat = 48 ∧ r ≠ []) then -1
   else if s.all (fun c => cls c == 2) then (if 9223372036854775807 < valOf s then -1 else (valOf s : Int)) else -1
def wBool : Str := [98, 111, 111, 108]
def wDo : Str := [100, 111]
def wElse : Str := [101, 108, 115, 101]
def wFalse : Str := [102, 97, 108, 115, 101]
def wFunc : Str := [102, 117, 110, 99]
def wIf : Str := [105, 102]
def wInt : Str := [105, 110, 116]
def wLet : Str := [108, 101, 116]
def wModule : Str := [109, 111, 100, 117, 108, 101]
def wPrint : Str := [112, 114, 105, 110, 116]
def wRead : Str := [114, 101, 97, 100]
def wReturn : Str := [114, 101, 116, 117, 114, 110]
def wTrue : Str := [116, 114, 117, 101]
def wWhile : Str := [119, 104, 105, 108, 101]
def words : List Str := [wBool, wDo, wElse, wFalse, wFunc, wIf, wInt, wLet, wModule, wPrint, wRead, wReturn, wTrue, wWhile]
def signs : List Str := [[40], [41], [123], [125], [46], [44], [59], [61], [33], [43], [45], [42], [47], [37], [60], [60, 61], [62], [62, 61], [61, 61], [33, 61], [38, 38], [124, 124]]
def r8scan : Nat → Nat → Str → List Tok → Option (List Tok)
 | 0, _, _, acc => some acc
 | f + 1, i, s, acc =>
   match s with
   | [] => some acc
   | c :: r =>
     if cls c = 3 then r8scan f (i + 1) r acc
     else if c.toNat = 35 then
      let k := (s.takeWhile (fun b => b.toNat != 10)).length
      r8scan f (i + k) (s.drop k) acc
     else if 0 < cls c then
      let w := s.takeWhile isPart
      let nx := fun t => r8scan f (i + w.length) (s.drop w.length) (acc ++ [t])
      if inL words w then nx ⟨3, w, i⟩
      else if r8name w then nx ⟨1, w, i⟩
      else if 0 ≤ r8number w then nx ⟨2, w, i⟩
      else none
     else
      let w := if inL signs (s.take 2) ∧ 2 ≤ s.length then s.take 2 else s.take 1
      if inL signs w then r8scan f (i + w.length) (s.drop w.length) (acc ++ [⟨4, w, i⟩]) else none
def r8all (s : Str) : Option (List Tok) := r8scan s.length 0 s []
structure Bound where
 name : Str
 id : Nat
 deep : Nat
deriving Inhabited, DecidableEq
structure Rd where
 L : List Tok
 at_ : Nat
 deep : Nat
 bad : Bool
 rows : List Row
 names : Nat
 mods : List Str
 funcs : List Str
 ids : List Nat
 calls : List Nat
 wants : List Str
 used : List Str
 seen : List Bound
 level : Nat
deriving Inhabited, DecidableEq
namespace Rd
def begin_ (l : List Tok) : Rd := ⟨l, 0, 0, false, [], 0, [], [], [], [], [], [], [], 0⟩
def fault (r : Rd) (e : Nat) : Rd := if r.names = 0 ∧ r.bad = false then { r with names := e } else r
def addKid (l : List Row) (under id : Nat) : List Row :=
 l.modify under fun x => { x with node := { x.node with kids := x.node.kids ++ [id] } }
def node (r : Rd) (under : Nat) (n : Node) : Rd :=
 let id := r.rows.length + 1
 let rows := r.rows ++ [⟨id, n⟩]
 { r with rows := if 1 < id then addKid rows under id else rows }
def text (r : Rd) (kind : Nat) : Str :=
 if r.bad then [] else
  match r.L[r.at_]? with
  | some t => if t.kind = kind then t.text else []
  | none => []
def next (r : Rd) (s : Str) : Bool := r.text 3 == s || r.text 4 == s
def step (r : Rd) : Rd := { r with at_ := r.at_ + 1 }
def eat (r : Rd) (s : Str) : Rd := if r.next s then r.step else r
def setBad (r : Rd) : Rd := { r with bad := true }
def need (r : Rd) (s : Str) : Rd := if r.next s then r.step else r.setBad
def name (r : Rd) : Rd := if r.text 1 = [] then r.setBad else r.step
def typed (r : Rd) : Nat × Rd := if r.next wInt then (1, r.step) else (2, r.need wBool)
def setType (r : Rd) (k t : Nat) : Rd := { r with rows := r.rows.modify k fun x => { x with node := { x.node with type := t } } }
def setRef (r : Rd) (k id : Nat) : Rd := { r with rows := r.rows.modify k fun x => { x with node := { x.node with ref := id } } }
def setNum (r : Rd) (k : Nat) (n : Int) : Rd := { r with rows := r.rows.modify k fun x => { x with node := { x.node with num := n } } }
def idAt (r : Rd) (k : Nat) : Nat := ((r.rows[k]?).map (·.id)).getD 0
def declare (r : Rd) (s : Str) (k : Nat) : Rd :=
 let r := if inL r.used s then r.fault 10 else r
 { r with used := r.used ++ [s], seen := r.seen ++ [⟨s, r.idAt k, r.level⟩] }
def findIn (l : List Bound) (s : Str) : Option Nat := (l.reverse.find? (fun b => b.name == s)).map (·.id)
def find (r : Rd) (s : Str) : Nat × Rd :=
 match findIn r.seen s with
 | some id => (id, r)
 | none => (0, r.fault 9)
def enter (r : Rd) : Rd :=
 let r := { r with deep := r.deep + 1 }
 if 90 < r.deep then r.setBad else r
def leave (r : Rd) : Rd := { r with deep := r.deep - 1 }
end Rd
end Hg
namespace Hg
namespace Rd
def ops : List Str := [[43], [45], [42], [47], [37], [60], [60, 61], [62], [62, 61], [61, 61], [33, 61], [38, 38], [124, 124]]
def opOf (s : Str) : Nat := match ops.findIdx? (· == s) with | some i => i + 1 | none => 0
def nd (kind : Nat) : Node := ⟨kind, [], 0, 0, 0, []⟩
def ndNamed (kind : Nat) (s : Str) : Node := ⟨kind, s, 0, 0, 0, []⟩
def ndNum (kind : Nat) (n : Int) : Node := ⟨kind, [], n, 0, 0, []⟩
def shut (r : Rd) : Rd := { r with seen := r.seen.filter (fun b => b.deep < r.level), level := r.level - 1 }
mutual
def expr : Nat → Rd → Nat → Option Rd
 | 0, _, _ => none
 | f + 1, r, under =>
   if r.text 2 ≠ [] then some (r.step.node under (ndNum 13 (r8number (r.text 2))))
   else if r.text 1 ≠ [] then
    let s := r.text 1
    let r := r.step
    if r.next [46] then call f r under s
    else
     let n := r.rows.length
     let r := r.node under (nd 15)
     some ((r.find s).2.setRef n (r.find s).1)
   else if r.next wTrue then some (r.step.node under (ndNum 14 1))
   else if r.next wFalse then some (r.step.node under (nd 14))
   else if r.next wRead then some (r.step.node under (nd 20))
   else if r.next [33] ∨ r.next [45] then
    let kind := if r.next [33] then 16 else 17
    let n := r.rows.length
    let r := (r.step.node under (nd kind)).enter
    if r.bad then some r.leave else (expr f r n).map leave
   else if r.next [40] then
    let n := r.rows.length
    let r := (r.step.node under (nd 18)).enter
    if r.bad then some r.leave else
     match expr f r n with
     | none => none
     | some r =>
       let op := opOf (r.text 4)
       let r := r.setNum n op
       let r := if op = 0 then r.setBad else r
       match expr f r.step n with
       | none => none
       | some r => some (r.need [41]).leave
   else some r.setBad
def call : Nat → Rd → Nat → Str → Option Rd
 | 0, _, _, _ => none
 | f + 1, r, under, mod =>
   let n := r.rows.length
   let r := (r.node under (nd 19)).need [46]
   let s := r.text 1
   let r := r.name
   let r := { r with calls := r.calls ++ [r.idAt n], wants := r.wants ++ [mod ++ [32] ++ s] }
   let r := r.enter
   if r.bad then some r.leave else (args f true (r.need [40]) n).map leave
def args : Nat → Bool → Rd → Nat → Option Rd
 | 0, _, _, _ => none
 | f + 1, first, r, n =>
   if r.bad then some r
   else if r.next [41] then some r.step
   else
    match expr f (if first then r else r.need [44]) n with
    | none => none
    | some r => args f false r n
end
mutual
def stmt : Nat → Rd → Nat → Option Rd
 | 0, _, _ => none
 | f + 1, r, under =>
   let n := r.rows.length
   if r.next wLet then
    let r := r.step
    let s := r.text 1
    let r := r.name.node under (ndNamed 6 s)
    let t := r.typed
    let r := (t.2.setType n t.1).need [61]
    match expr f r n with
    | none => none
    | some r => some ((r.declare s n).need [59])
   else if r.next wIf then
    match expr f (r.step.node under (nd 8)) n with
    | none => none
    | some r =>
      match block f r n with
      | none => none
      | some r => block f (r.need wElse) n
   else if r.next wWhile then
    match expr f (r.step.node under (nd 9)) n with
    | none => none
    | some r => block f r n
   else if r.next wPrint then
    (expr f (r.step.node under (nd 11)) n).map (·.need [59])
   else if r.next wDo then
    let r := r.step.node under (nd 12)
    (call f r.name n (r.text 1)).map (·.need [59])
   else
    let s := r.text 1
    let r := r.name.node under (nd 7)
    let r := ((r.find s).2.setRef n (r.find s).1).need [61]
    (expr f r n).map (·.need [59])
def block : Nat → Rd → Nat → Option Rd
 | 0, _, _ => none
 | f + 1, r, under =>
   let n := r.rows.length
   let r := r.node under (nd 5)
   let r := ({ r with level := r.level + 1 } : Rd).enter
   if r.bad then some r.leave.shut else (stmts f (r.need [123]) n).map (fun r => r.leave.shut)
def stmts : Nat → Rd → Nat → Option Rd
 | 0, _, _ => none
 | f + 1, r, n =>
   if r.bad then some r
   else if r.next [125] then some r.step
   else
    match stmt f r n with
    | none => none
    | some r => stmts f r n
end
def params : Nat → Bool → Rd → Nat → Option Rd
 | 0, _, _, _ => none
 | f + 1, first, r, k =>
   if r.bad then some r
   else if r.next [41] then some r.step
   else
    let r := if first then r else r.need [44]
    let x := r.text 1
    let p := r.rows.length
    let r := r.name.node k (ndNamed 4 x)
    let t := r.typed
    params f false ((t.2.setType p t.1).declare x p) k
def body : Nat → Rd → Nat → Option Rd
 | 0, _, _ => none
 | f + 1, r, n =>
   if r.bad ∨ r.next wReturn then some r
   else
    match stmt f r n with
    | none => none
    | some r => body f r n
def func (f : Nat) (r : Rd) (under : Nat) (mod : Str) : Option Rd :=
 let r := r.need wFunc
 let s := r.text 1
 let r := r.name
 let r := if inL r.funcs (mod ++ [32] ++ s) then r.fault 10 else r
 let k := r.rows.length
 let r := r.node under (ndNamed 3 s)
 let r := { r with funcs := r.funcs ++ [mod ++ [32] ++ s], ids := r.ids ++ [r.idAt k], used := [], seen := [], level := 0 }
 match params f true (r.need [40]) k with
 | none => none
 | some r =>
   let t := r.typed
   let r := t.2.setType k t.1
   let b := r.rows.length
   let r := (r.node k (nd 5)).need [123]
   match body f r b with
   | none => none
   | some r =>
     let r := r.need wReturn
     let n := r.rows.length
     match expr f (r.node b (nd 10)) n with
     | none => none
     | some r => some ((r.need [59]).need [125])
def funcsLoop (f : Nat) : Nat → Rd → Nat → Str → Option Rd
 | 0, _, _, _ => none
 | g + 1, r, m, s =>
   if r.bad then some r
   else if r.next [125] then some r.step
   else
    match func f r m s with
    | none => none
    | some r => funcsLoop f g r m s
def modsLoop (f : Nat) : Nat → Rd → Nat → Option Rd
 | 0, _, _ => none
 | g + 1, r, root =>
   if r.bad ∨ r.L.length ≤ r.at_ then some r
   else
    let r := r.need wModule
    let s := r.text 1
    let r := r.name
    let r := if inL r.mods s then r.fault 10 else r
    let r := { r with mods := r.mods ++ [s] }
    let m := r.rows.length
    let r := (r.node root (ndNamed 2 s)).need [123]
    match funcsLoop f f r m s with
    | none => none
    | some r => modsLoop f g r root
def lastFrom : List Str → List Nat → Str → Nat → Nat
 | f :: fs, i :: is, s, t => lastFrom fs is s (if f = s then i else t)
 | _, _, _, t => t
def lastOf (fs : List Str) (is : List Nat) (s : Str) : Nat := lastFrom fs is s 0
def link : List Nat → List Str → Rd → Rd
 | id :: is, s :: ws, r =>
   let to := lastOf r.funcs r.ids s
   let r := if to = 0 then r.fault 9 else r
   link is ws (r.setRef (id - 1) to)
 | _, _, r => r
def program (f : Nat) (r : Rd) : Option Rd :=
 let root := r.rows.length
 match modsLoop f f (r.node 0 (nd 1)) root with
 | none => none
 | some r => some (link r.calls r.wants r)
end Rd
def r9parse (f : Nat) (s : Str) : Option (List Row × Nat) :=
 match r8all s with
 | none => some ([], 20)
 | some l =>
   match Rd.program f (Rd.begin_ l) with
   | none => none
   | some r =>
     if r.bad then some ([], 20)
     else if 20000 < r.rows.length then some ([], 5)
     else if r.names ≠ 0 then some ([], r.names)
     else some (r.rows, 0)
end Hg
namespace Hg
def atI (l : List Row) (id : Nat) : Option Nat := l.findIdx? (fun r => r.id == id)
def atInt (l : List Row) (id : Nat) : Int := match atI l id with | some k => (k : Int) | none => -1
def parentOf : List Row → Nat → Nat × Nat
 | [], _ => (0, 0)
 | r :: rs, id => match r.node.kids.findIdx? (· == id) with
   | some k => (r.id, k)
   | none => parentOf rs id
def nodeOf (l : List Row) (id : Nat) : Node := match l.find? (fun r => r.id == id) with | some r => r.node | none => Node.zero
def isIn (l : List Nat) (x : Nat) : Bool := l.contains x
end Hg
namespace Hg
theorem scan_nil (f i : Nat) (acc : List Tok) : r8scan f i [] acc = some acc := by cases f <;> rfl
section
variable {f i : Nat} {c : UInt8} {r : Str} {acc : List Tok}
theorem scan_blank (h : cls c = 3) : r8scan (f + 1) i (c :: r) acc = r8scan f (i + 1) r acc := by
 simp only [r8scan, h, if_true]
theorem scan_comment (h : cls c ≠ 3) (h' : c.toNat = 35) : r8scan (f + 1) i (c :: r) acc =
 r8scan f (i + ((c :: r).takeWhile (fun b => b.toNat != 10)).length) ((c :: r).drop ((c :: r).takeWhile (fun b => b.toNat != 10)).length) acc := by
 simp only [r8scan, h, h', if_true, if_false]
theorem scan_word (h : cls c ≠ 3) (h' : c.toNat ≠ 35) (h0 : 0 < cls c) {w : Str} (hw : (c :: r).takeWhile isPart = w) (hm : inL words w = true) : r8scan (f + 1) i (c :: r) acc =
 r8scan f (i + w.length) ((c :: r).drop w.length) (acc ++ [⟨3, w, i⟩]) := by
 simp only [r8scan, h, h', h0, if_true, if_false, hw, hm]
theorem scan_name (h : cls c ≠ 3) (h' : c.toNat ≠ 35) (h0 : 0 < cls c) {w : Str} (hw : (c :: r).takeWhile isPart = w) (hm : inL words w = false) (hn : r8name w = true) : r8scan (f + 1) i (c :: r) acc =
 r8scan f (i + w.length) ((c :: r).drop w.length) (acc ++ [⟨1, w, i⟩]) := by
 simp only [r8scan, h, h', h0, if_true, if_false, hw, hm, hn]; rfl
theorem scan_number (h : cls c ≠ 3) (h' : c.toNat ≠ 35) (h0 : 0 < cls c) {w : Str} (hw : (c :: r).takeWhile isPart = w) (hm : inL words w = false) (hn : r8name w = false) (hv : 0 ≤ r8number w) : r8scan (f + 1) i (c :: r) acc =
 r8scan f (i + w.length) ((c :: r).drop w.length) (acc ++ [⟨2, w, i⟩]) := by
 simp only [r8scan, h, h', h0, if_true, if_false, hw, hm, hn, hv]; rfl
theorem scan_bad (h : cls c ≠ 3) (h' : c.toNat ≠ 35) (h0 : 0 < cls c) {w : Str} (hw : (c :: r).takeWhile isPart = w) (hm : inL words w = false) (hn : r8name w = false) (hv : ¬ 0 ≤ r8number w) : r8scan (f + 1) i (c :: r) acc = none := by
 simp only [r8scan, h, h', h0, if_true, if_false, hw, hm, hn, hv]; rfl
theorem scan_sign2 (h : cls c ≠ 3) (h' : c.toNat ≠ 35) (h0 : ¬ 0 < cls c) (h2 : 2 ≤ (c :: r).length) (hm : inL signs ((c :: r).take 2) = true) : r8scan (f + 1) i (c :: r) acc =
 r8scan f (i + 2) ((c :: r).drop 2) (acc ++ [⟨4, (c :: r).take 2, i⟩]) := by
 have hl : ((c :: r).take 2).length = 2 := by rw [List.length_take]; omega
 simp only [r8scan, h, h', h0, if_false, hm, h2, and_self, if_true, hl]
theorem scan_sign1 (h : cls c ≠ 3) (h' : c.toNat ≠ 35) (h0 : ¬ 0 < cls c) (h2 : ¬ (inL signs ((c :: r).take 2) = true ∧ 2 ≤ (c :: r).length)) (hm : inL signs ((c :: r).take 1) = true) : r8scan (f + 1) i (c :: r) acc =
 r8scan f (i + 1) ((c :: r).drop 1) (acc ++ [⟨4, (c :: r).take 1, i⟩]) := by
 have hl : ((c :: r).take 1).length = 1 := by simp
 simp only [r8scan, h, h', h0, if_false, h2, hm, if_true, hl]
theorem scan_no (h : cls c ≠ 3) (h' : c.toNat ≠ 35) (h0 : ¬ 0 < cls c) (h2 : ¬ (inL signs ((c :: r).take 2) = true ∧ 2 ≤ (c :: r).length)) (hm : inL signs ((c :: r).take 1) = false) : r8scan (f + 1) i (c :: r) acc = none := by
 simp only [r8scan, h, h', h0, if_false, h2, hm]; rfl
end
theorem takeWhile_run (s : Str) (p : UInt8 → Bool) (i k : Nat) (hi : i ≤ k) (hk : k ≤ s.length) (hin : ∀ j, i ≤ j → j < k → (hj : j < s.length) → p s[j] = true)
 (hend : k = s.length ∨ ∃ h : k < s.length, p s[k] = false) : (s.drop i).takeWhile p = (s.drop i).take (k - i) ∧ ((s.drop i).takeWhile p).length = k - i := by
 have key : ∀ (n : Nat) (t : Str), n ≤ t.length → (∀ j, j < n → (hj : j < t.length) → p t[j] = true) → (n = t.length ∨ ∃ h : n < t.length, p t[n] = false) → t.takeWhile p = t.take n := by
  intro n
  induction n with
  | zero =>
    intro t _ _ h
    rcases h with h | ⟨h, h'⟩
    ·
     have : t = [] := List.eq_nil_of_length_eq_zero h.symm
     subst this; rfl
    ·
     cases t with
     | nil => simp at h
     | cons c r => simp only [List.getElem_cons_zero] at h'; simp [List.takeWhile_cons, h']
  | succ n ih =>
    intro t hn hin h
    cases t with
    | nil => simp at hn
    | cons c r =>
      have h0 := hin 0 (by omega) (by simp)
      simp only [List.getElem_cons_zero] at h0
      rw [List.takeWhile_cons, h0, List.take_succ_cons]
      simp only [if_true]
      rw [ih r (by simpa using hn) (fun j hj hj2 => by have := hin (j + 1) (by omega) (by simp; omega); simpa using this) (by
       rcases h with h | ⟨h, h'⟩
       ·
        left; simpa using h
       ·
        right; exact ⟨by simpa using h, by simpa using h'⟩)]
 have h1 := key (k - i) (s.drop i) (by rw [List.length_drop]; omega) (fun j hj hj2 => by
  rw [List.getElem_drop]; exact hin (i + j) (by omega) (by omega) (by rw [List.length_drop] at hj2; omega)) (by
  rcases hend with h | ⟨h, h'⟩
  ·
   left; rw [List.length_drop]; omega
  ·
   right; refine ⟨by rw [List.length_drop]; omega, ?_⟩
   rw [List.getElem_drop]
   have : i + (k - i) = k := by omega
   simp only [this]; exact h')
 refine ⟨h1, ?_⟩
 rw [h1, List.length_take, List.length_drop]; omega
end Hg
namespace Hg
namespace Rd
structure Grow (s s' : Rd) : Prop where
 L : s'.L = s.L
 at_ : s.at_ ≤ s'.at_
 bad : s.bad = true → s'.bad = true
 rows : ∀ (k : Nat) (r : Row), s.rows[k]? = some r → ∃ r', s'.rows[k]? = some r' ∧ r'.id = r.id ∧ r.node.kids.length ≤ r'.node.kids.length
 len : s.rows.length ≤ s'.rows.length
theorem Grow.refl (s : Rd) : Grow s s := ⟨rfl, Nat.le_refl _, id, fun k r h => ⟨r, h, rfl, Nat.le_refl _⟩, Nat.le_refl _⟩
theorem Grow.trans {a b c : Rd} (h : Grow a b) (k : Grow b c) : Grow a c :=
 ⟨k.L.trans h.L, Nat.le_trans h.at_ k.at_, fun hb => k.bad (h.bad hb), fun i r hr => by
  obtain ⟨r1, h1, h2, h3⟩ := h.rows i r hr
  obtain ⟨r2, k1, k2, k3⟩ := k.rows i r1 h1
  exact ⟨r2, k1, k2.trans h2, Nat.le_trans h3 k3⟩, Nat.le_trans h.len k.len⟩
structure Inv (s : Rd) : Prop where
 mods : s.mods.length ≤ s.rows.length
 funcs : s.funcs.length ≤ s.rows.length
 ids : s.ids.length = s.funcs.length
 calls : s.calls.length ≤ s.rows.length
 wants : s.wants.length = s.calls.length
 used : s.used.length ≤ s.rows.length
 seen : s.seen.length ≤ s.used.length
 kids : ∀ (k : Nat) (r : Row), s.rows[k]? = some r → r.node.kids.length ≤ s.rows.length
 rid : ∀ (k : Nat) (r : Row), s.rows[k]? = some r → r.id = k + 1
 callr : ∀ c ∈ s.calls, 0 < c ∧ c ≤ s.rows.length
theorem modify_get {l : List Row} {k i : Nat} {f : Row → Row} {r : Row} (h : l[i]? = some r) : (l.modify k f)[i]? = some (if k = i then f r else r) := by
 rw [List.getElem?_modify, h]
 by_cases e : k = i <;> simp [e]
theorem modify_inv {l : List Row} {k i : Nat} {f : Row → Row} {r' : Row} (h : (l.modify k f)[i]? = some r') : ∃ r, l[i]? = some r ∧ r' = if k = i then f r else r := by
 rw [List.getElem?_modify] at h
 cases hl : l[i]? with
 | none => rw [hl] at h; by_cases e : k = i <;> simp [e] at h
 | some r =>
   rw [hl] at h
   refine ⟨r, rfl, ?_⟩
   by_cases e : k = i
   ·
    simp [e] at h ⊢; exact h.symm
   ·
    simp [e] at h ⊢; exact h.symm
section
variable {s : Rd}
theorem grow_same {s' : Rd} (hL : s'.L = s.L) (ha : s.at_ ≤ s'.at_) (hb : s.bad = true → s'.bad = true) (hr : s'.rows = s.rows) : Grow s s' :=
 ⟨hL, ha, hb, fun k r h => ⟨r, by rw [hr]; exact h, rfl, Nat.le_refl _⟩, by rw [hr]; exact Nat.le_refl _⟩
theorem inv_same {s' : Rd} (h : Inv s) (h1 : s'.rows = s.rows) (h2 : s'.mods = s.mods) (h3 : s'.funcs = s.funcs) (h4 : s'.ids = s.ids) (h5 : s'.calls = s.calls) (h6 : s'.wants = s.wants) (h7 : s'.used = s.used) (h8 : s'.seen.length ≤ s.seen.length) : Inv s' :=
 ⟨by rw [h1, h2]; exact h.mods, by rw [h1, h3]; exact h.funcs, by rw [h3, h4]; exact h.ids, by rw [h1, h5]; exact h.calls, by rw [h5, h6]; exact h.wants, by rw [h1, h7]; exact h.used, by rw [h7]; exact Nat.le_trans h8 h.seen,
  by rw [h1]; exact h.kids, by rw [h1]; exact h.rid, by rw [h1, h5]; exact h.callr⟩
theorem grow_step (s : Rd) : Grow s s.step := grow_same rfl (Nat.le_succ _) id rfl
theorem grow_setBad (s : Rd) : Grow s s.setBad := grow_same rfl (Nat.le_refl _) (fun _ => rfl) rfl
theorem grow_need (s : Rd) (t : Str) : Grow s (s.need t) := by unfold need; split <;> first | exact grow_step s | exact grow_setBad s
theorem grow_name (s : Rd) : Grow s s.name := by unfold name; split <;> first | exact grow_setBad s | exact grow_step s
theorem grow_typed (s : Rd) : Grow s s.typed.2 := by unfold typed; split <;> first | exact grow_step s | exact grow_need s _
theorem grow_fault (s : Rd) (e : Nat) : Grow s (s.fault e) := by unfold fault; split <;> first | exact grow_same rfl (Nat.le_refl _) id rfl | exact Grow.refl s
theorem grow_enter (s : Rd) : Grow s s.enter := by
 unfold enter; dsimp only; split
 ·
  exact grow_same rfl (Nat.le_refl _) (fun _ => rfl) rfl
 ·
  exact grow_same rfl (Nat.le_refl _) id rfl
theorem grow_leave (s : Rd) : Grow s s.leave := grow_same rfl (Nat.le_refl _) id rfl
theorem grow_shut (s : Rd) : Grow s s.shut := grow_same rfl (Nat.le_refl _) id rfl
theorem grow_modify (s : Rd) (k : Nat) (f : Row → Row) (hid : ∀ r, (f r).id = r.id) (hk : ∀ r, r.node.kids.length ≤ (f r).node.kids.length) : Grow s { s with rows := s.rows.modify k f } :=
 ⟨rfl, Nat.le_refl _, id, fun i r h => by
  refine ⟨_, modify_get h, ?_, ?_⟩
  ·
   (split <;> first | exact hid r | exact rfl)
  ·
   (split <;> first | exact hk r | exact Nat.le_refl _), by simp⟩
theorem grow_setType (s : Rd) (k t : Nat) : Grow s (s.setType k t) := grow_modify s k _ (fun _ => rfl) (fun _ => Nat.le_refl _)
theorem grow_setRef (s : Rd) (k t : Nat) : Grow s (s.setRef k t) := grow_modify s k _ (fun _ => rfl) (fun _ => Nat.le_refl _)
theorem grow_setNum (s : Rd) (k : Nat) (n : Int) : Grow s (s.setNum k n) := grow_modify s k _ (fun _ => rfl) (fun _ => Nat.le_refl _)
theorem grow_push (s : Rd) (r : Row) : Grow s { s with rows := s.rows ++ [r] } :=
 ⟨rfl, Nat.le_refl _, id, fun k r' h => ⟨r', by rw [List.getElem?_append_left (List.getElem?_eq_some_iff.1 h).1]; exact h, rfl, Nat.le_refl _⟩, by simp⟩
theorem grow_node (s : Rd) (u : Nat) (n : Node) : Grow s (s.node u n) := by
 unfold node; dsimp only; split
 ·
  exact (grow_push s ⟨s.rows.length + 1, n⟩).trans (grow_modify _ u (fun x => { x with node := { x.node with kids := x.node.kids ++ [s.rows.length + 1] } }) (fun _ => rfl) (fun r => by simp))
 ·
  exact grow_push s _
theorem len_node (s : Rd) (u : Nat) (n : Node) : (s.node u n).rows.length = s.rows.length + 1 := by
 unfold node; dsimp only; split <;> simp [addKid]
theorem grow_declare (s : Rd) (t : Str) (k : Nat) : Grow s (s.declare t k) := by
 unfold declare; dsimp only
 split
 ·
  exact (grow_fault s 10).trans (grow_same rfl (Nat.le_refl _) id rfl)
 ·
  exact grow_same rfl (Nat.le_refl _) id rfl
end
theorem inv_grow_rows {s s' : Rd} (h : Inv s) (g : Grow s s') (hk : ∀ (k : Nat) (r : Row), s'.rows[k]? = some r → r.node.kids.length ≤ s'.rows.length) (hid : ∀ (k : Nat) (r : Row), s'.rows[k]? = some r → r.id = k + 1)
 (h2 : s'.mods = s.mods) (h3 : s'.funcs = s.funcs) (h4 : s'.ids = s.ids) (h5 : s'.calls = s.calls) (h6 : s'.wants = s.wants) (h7 : s'.used = s.used) (h8 : s'.seen = s.seen) : Inv s' :=
 ⟨by rw [h2]; exact Nat.le_trans h.mods g.len, by rw [h3]; exact Nat.le_trans h.funcs g.len, by rw [h3, h4]; exact h.ids, by rw [h5]; exact Nat.le_trans h.calls g.len, by rw [h5, h6]; exact h.wants,
  by rw [h7]; exact Nat.le_trans h.used g.len, by rw [h7, h8]; exact h.seen, hk, hid, fun c hc => by rw [h5] at hc; have := h.callr c hc; have := g.len; omega⟩
theorem inv_node {s : Rd} (h : Inv s) (u : Nat) (n : Node) (hn : n.kids = []) : Inv (s.node u n) := by
 have hg := grow_node s u n
 have hl := len_node s u n
 have push : ∀ (k : Nat) (r : Row), (s.rows ++ [⟨s.rows.length + 1, n⟩])[k]? = some r → r.node.kids.length ≤ s.rows.length ∧ r.id = k + 1 := by
  intro k r hr
  by_cases hk : k < s.rows.length
  ·
   rw [List.getElem?_append_left hk] at hr
   exact ⟨h.kids k r hr, h.rid k r hr⟩
  ·
   rw [List.getElem?_append_right (by omega)] at hr
   by_cases e : k - s.rows.length = 0
   ·
    rw [e] at hr
    simp only [List.getElem?_cons_zero, Option.some.injEq] at hr
    subst hr
    exact ⟨by simp [hn], by simp; omega⟩
   ·
    rw [List.getElem?_eq_none (by simp; omega)] at hr; cases hr
 have all : ∀ (k : Nat) (r : Row), (s.node u n).rows[k]? = some r → r.node.kids.length ≤ s.rows.length + 1 ∧ r.id = k + 1 := by
  intro k r hr
  unfold node at hr
  dsimp only at hr
  split at hr
  ·
   obtain ⟨r0, h0, he⟩ := modify_inv hr
   obtain ⟨p1, p2⟩ := push k r0 h0
   subst he
   split
   ·
    exact ⟨by simp; omega, p2⟩
   ·
    exact ⟨by omega, p2⟩
  ·
   obtain ⟨p1, p2⟩ := push k r hr
   exact ⟨by omega, p2⟩
 refine inv_grow_rows h hg (fun k r hr => by rw [hl]; exact (all k r hr).1) (fun k r hr => (all k r hr).2) ?_ ?_ ?_ ?_ ?_ ?_ ?_
 all_goals rfl
theorem inv_modify {s : Rd} (h : Inv s) (k : Nat) (f : Row → Row) (hid : ∀ r, (f r).id = r.id) (hk : ∀ r, (f r).node.kids = r.node.kids) : Inv { s with rows := s.rows.modify k f } := by
 refine inv_grow_rows h (grow_modify s k f hid (fun r => by rw [hk]; exact Nat.le_refl _)) (fun i r hr => ?_) (fun i r hr => ?_) rfl rfl rfl rfl rfl rfl rfl
 ·
  obtain ⟨r0, h0, he⟩ := modify_inv hr
  have := h.kids i r0 h0
  subst he
  simp only [List.length_modify]
  split
  ·
   rw [hk]; exact this
  ·
   exact this
 ·
  obtain ⟨r0, h0, he⟩ := modify_inv hr
  have := h.rid i r0 h0
  subst he
  split
  ·
   rw [hid]; exact this
  ·
   exact this
structure EStep (s s' : Rd) : Prop where
 grow : Grow s s'
 inv : Inv s → Inv s'
 deep : s'.deep = s.deep
 level : s'.level = s.level
 used : s'.used = s.used
 seen : s'.seen = s.seen
 mods : s'.mods = s.mods
 funcs : s'.funcs = s.funcs
 ids : s'.ids = s.ids
theorem EStep.refl (s : Rd) : EStep s s := ⟨Grow.refl s, id, rfl, rfl, rfl, rfl, rfl, rfl, rfl⟩
theorem EStep.trans {a b c : Rd} (h : EStep a b) (k : EStep b c) : EStep a c :=
 ⟨h.grow.trans k.grow, fun x => k.inv (h.inv x), k.deep.trans h.deep, k.level.trans h.level, k.used.trans h.used, k.seen.trans h.seen, k.mods.trans h.mods, k.funcs.trans h.funcs, k.ids.trans h.ids⟩
theorem es_step (s : Rd) : EStep s s.step := ⟨grow_step s, fun h => inv_same h rfl rfl rfl rfl rfl rfl rfl (Nat.le_refl _), rfl, rfl, rfl, rfl, rfl, rfl, rfl⟩
theorem es_setBad (s : Rd) : EStep s s.setBad := ⟨grow_setBad s, fun h => inv_same h rfl rfl rfl rfl rfl rfl rfl (Nat.le_refl _), rfl, rfl, rfl, rfl, rfl, rfl, rfl⟩
theorem es_need (s : Rd) (t : Str) : EStep s (s.need t) := by unfold need; split <;> first | exact es_step s | exact es_setBad s
theorem es_name (s : Rd) : EStep s s.name := by unfold name; split <;> first | exact es_setBad s | exact es_step s
theorem es_typed (s : Rd) : EStep s s.typed.2 := by unfold typed; split <;> first | exact es_step s | exact es_need s _
theorem es_fault (s : Rd) (e : Nat) : EStep s (s.fault e) := by
 unfold fault; split
 ·
  exact ⟨grow_same rfl (Nat.le_refl _) id rfl, fun h => inv_same h rfl rfl rfl rfl rfl rfl rfl (Nat.le_refl _), rfl, rfl, rfl, rfl, rfl, rfl, rfl⟩
 ·
  exact EStep.refl s
theorem es_find (s : Rd) (t : Str) : EStep s (s.find t).2 := by unfold find; split <;> first | exact EStep.refl s | exact es_fault s _
theorem es_node (s : Rd) (u : Nat) (n : Node) (hn : n.kids = []) : EStep s (s.node u n) := ⟨grow_node s u n, fun h => inv_node h u n hn, rfl, rfl, rfl, rfl, rfl, rfl, rfl⟩
theorem es_setRef (s : Rd) (k t : Nat) : EStep s (s.setRef k t) := ⟨grow_setRef s k t, fun h => inv_modify h k _ (fun _ => rfl) (fun _ => rfl), rfl, rfl, rfl, rfl, rfl, rfl, rfl⟩
theorem es_setNum (s : Rd) (k : Nat) (t : Int) : EStep s (s.setNum k t) := ⟨grow_setNum s k t, fun h => inv_modify h k _ (fun _ => rfl) (fun _ => rfl), rfl, rfl, rfl, rfl, rfl, rfl, rfl⟩
theorem es_setType (s : Rd) (k t : Nat) : EStep s (s.setType k t) := ⟨grow_setType s k t, fun h => inv_modify h k _ (fun _ => rfl) (fun _ => rfl), rfl, rfl, rfl, rfl, rfl, rfl, rfl⟩
theorem es_within {s s' : Rd} (h : EStep s.enter s') : EStep s s'.leave := by
 have hd : s.enter.deep = s.deep + 1 := by unfold enter; dsimp only; split <;> rfl
 have hi : Inv s → Inv s.enter := fun h => by unfold enter; dsimp only; split <;> exact inv_same h rfl rfl rfl rfl rfl rfl rfl (Nat.le_refl _)
 have he : s.enter.level = s.level ∧ s.enter.used = s.used ∧ s.enter.seen = s.seen ∧ s.enter.mods = s.mods ∧ s.enter.funcs = s.funcs ∧ s.enter.ids = s.ids := by
  unfold enter; dsimp only; split <;> exact ⟨rfl, rfl, rfl, rfl, rfl, rfl⟩
 refine ⟨((grow_enter s).trans h.grow).trans (grow_leave s'), fun x => ?_, ?_, h.level.trans he.1, h.used.trans he.2.1, h.seen.trans he.2.2.1, h.mods.trans he.2.2.2.1, h.funcs.trans he.2.2.2.2.1, h.ids.trans he.2.2.2.2.2⟩
 ·
  exact inv_same (h.inv (hi x)) rfl rfl rfl rfl rfl rfl rfl (Nat.le_refl _)
 ·
  show s'.deep - 1 = s.deep
  rw [h.deep, hd]; omega
theorem idAt_node (s : Rd) (u : Nat) (n : Node) : (s.node u n).idAt s.rows.length = s.rows.length + 1 := by
 unfold idAt node
 dsimp only
 split
 ·
  have := modify_get (k := u) (f := fun x : Row => { x with node := { x.node with kids := x.node.kids ++ [s.rows.length + 1] } }) (show (s.rows ++ [⟨s.rows.length + 1, n⟩])[s.rows.length]? = some ⟨s.rows.length + 1, n⟩ by simp)
  unfold addKid
  rw [this]
  simp only [Option.map_some, Option.getD_some]
  split <;> rfl
 ·
  simp
end Rd
end Hg
namespace Hg
namespace Rd
theorem es_mid {s a s' : Rd} {c : Nat} {t : Str} (A : EStep s a) (hr : s.rows.length < a.rows.length) (hcalls : a.calls = s.calls) (hw : a.wants = s.wants) (hc : 0 < c ∧ c ≤ a.rows.length)
 (B : EStep { a with calls := a.calls ++ [c], wants := a.wants ++ [t] } s') : EStep s s' := by
 refine ⟨(A.grow.trans (grow_same (s := a) (s' := { a with calls := a.calls ++ [c], wants := a.wants ++ [t] }) rfl (Nat.le_refl _) id rfl)).trans B.grow, fun h => B.inv ?_, B.deep.trans A.deep, B.level.trans A.level, B.used.trans A.used, B.seen.trans A.seen, B.mods.trans A.mods, B.funcs.trans A.funcs, B.ids.trans A.ids⟩
 have ha := A.inv h
 refine ⟨ha.mods, ha.funcs, ha.ids, ?_, ?_, ha.used, ha.seen, ha.kids, ha.rid, fun x hx => ?_⟩
 ·
  have := h.calls; simp [hcalls]; omega
 ·
  simp [ha.wants]
 ·
  rcases List.mem_append.1 hx with hx | hx
  ·
   exact ha.callr x hx
  ·
   simp at hx; subst hx; exact hc
theorem calls_need (s : Rd) (t : Str) : (s.need t).calls = s.calls ∧ (s.need t).wants = s.wants ∧ (s.need t).rows = s.rows := by unfold need; split <;> exact ⟨rfl, rfl, rfl⟩
theorem calls_name (s : Rd) : s.name.calls = s.calls ∧ s.name.wants = s.wants ∧ s.name.rows = s.rows := by unfold name; split <;> exact ⟨rfl, rfl, rfl⟩
theorem idAt_rows {s s' : Rd} (h : s'.rows = s.rows) (k : Nat) : s'.idAt k = s.idAt k := by unfold idAt; rw [h]
theorem kids_nd (k : Nat) : (nd k).kids = [] := rfl
theorem kids_ndNamed (k : Nat) (s : Str) : (ndNamed k s).kids = [] := rfl
theorem kids_ndNum (k : Nat) (n : Int) : (ndNum k n).kids = [] := rfl
theorem expr_es (f : Nat) : (∀ s u s', expr f s u = some s' → EStep s s') ∧ (∀ s u m s', call f s u m = some s' → EStep s s') ∧ (∀ b s n s', args f b s n = some s' → EStep s s') := by
 induction f with
 | zero => exact ⟨fun _ _ _ h => by simp [expr] at h, fun _ _ _ _ h => by simp [call] at h, fun _ _ _ _ h => by simp [args] at h⟩
 | succ f ih =>
   obtain ⟨ihe, ihc, iha⟩ := ih
   refine ⟨fun s u s' h => ?_, fun s u m s' h => ?_, fun b s n s' h => ?_⟩
   ·
    rw [expr] at h
    by_cases h2 : s.text 2 ≠ []
    ·
     rw [if_pos h2] at h
     injection h with h; subst h
     exact (es_step s).trans (es_node _ _ _ (kids_ndNum _ _))
    rw [if_neg h2] at h
    by_cases h1 : s.text 1 ≠ []
    ·
     rw [if_pos h1] at h
     dsimp only at h
     by_cases hd : s.step.next [46] = true
     ·
      rw [if_pos hd] at h
      exact (es_step s).trans (ihc _ _ _ _ h)
     ·
      rw [if_neg hd] at h
      injection h with h; subst h
      exact (((es_step s).trans (es_node _ _ _ (kids_nd _))).trans (es_find _ _)).trans (es_setRef _ _ _)
    rw [if_neg h1] at h
    by_cases ht : s.next wTrue = true
    ·
     rw [if_pos ht] at h
     injection h with h; subst h
     exact (es_step s).trans (es_node _ _ _ (kids_ndNum _ _))
    rw [if_neg ht] at h
    by_cases hf : s.next wFalse = true
    ·
     rw [if_pos hf] at h
     injection h with h; subst h
     exact (es_step s).trans (es_node _ _ _ (kids_nd _))
    rw [if_neg hf] at h
    by_cases hr : s.next wRead = true
    ·
     rw [if_pos hr] at h
     injection h with h; subst h
     exact (es_step s).trans (es_node _ _ _ (kids_nd _))
    rw [if_neg hr] at h
    by_cases hn : s.next [33] = true ∨ s.next [45] = true
    ·
     rw [if_pos hn] at h
     dsimp only at h
     generalize hk : (if s.next [33] = true then 16 else 17) = kind at h
     by_cases hb : (s.step.node u (nd kind)).enter.bad = true
     ·
      rw [if_pos hb] at h
      injection h with h; subst h
      exact ((es_step s).trans (es_node _ _ _ (kids_nd _))).trans (es_within (EStep.refl _))
     ·
      rw [if_neg hb] at h
      cases he : expr f (s.step.node u (nd kind)).enter s.rows.length with
      | none => rw [he] at h; simp at h
      | some s1 =>
        rw [he] at h
        injection h with h; subst h
        exact ((es_step s).trans (es_node _ _ _ (kids_nd _))).trans (es_within (ihe _ _ _ he))
    rw [if_neg hn] at h
    by_cases hp : s.next [40] = true
    ·
     rw [if_pos hp] at h
     dsimp only at h
     by_cases hb : (s.step.node u (nd 18)).enter.bad = true
     ·
      rw [if_pos hb] at h
      injection h with h; subst h
      exact ((es_step s).trans (es_node _ _ _ (kids_nd _))).trans (es_within (EStep.refl _))
     ·
      rw [if_neg hb] at h
      cases he : expr f (s.step.node u (nd 18)).enter s.rows.length with
      | none => rw [he] at h; simp at h
      | some s1 =>
        rw [he] at h
        dsimp only at h
        have e1 : EStep (s.step.node u (nd 18)).enter ((if opOf (s1.text 4) = 0 then (s1.setNum s.rows.length (opOf (s1.text 4) : Nat)).setBad else s1.setNum s.rows.length (opOf (s1.text 4) : Nat)).step) := by
         refine (ihe _ _ _ he).trans (EStep.trans ?_ (es_step _))
         split
         ·
          exact (es_setNum _ _ _).trans (es_setBad _)
         ·
          exact es_setNum _ _ _
        cases he2 : expr f ((if opOf (s1.text 4) = 0 then (s1.setNum s.rows.length (opOf (s1.text 4) : Nat)).setBad else s1.setNum s.rows.length (opOf (s1.text 4) : Nat)).step) s.rows.length with
        | none => rw [he2] at h; simp at h
        | some s2 =>
          rw [he2] at h
          injection h with h; subst h
          exact ((es_step s).trans (es_node _ _ _ (kids_nd _))).trans (es_within ((e1.trans (ihe _ _ _ he2)).trans (es_need _ _)))
    rw [if_neg hp] at h
    injection h with h; subst h
    exact es_setBad s
   ·
    rw [call] at h
    try dsimp only at h
    have hrn : ((s.node u (nd 19)).need [46]).name.rows = (s.node u (nd 19)).rows := (calls_name _).2.2.trans (calls_need _ _).2.2
    have hid : ((s.node u (nd 19)).need [46]).name.idAt s.rows.length = s.rows.length + 1 := (idAt_rows hrn _).trans (idAt_node s u _)
    have A : EStep s ((s.node u (nd 19)).need [46]).name := ((es_node s u _ (kids_nd _)).trans (es_need _ _)).trans (es_name _)
    have hl : ((s.node u (nd 19)).need [46]).name.rows.length = s.rows.length + 1 := by rw [hrn, len_node]
    refine es_mid (c := ((s.node u (nd 19)).need [46]).name.idAt s.rows.length) (t := m ++ [32] ++ ((s.node u (nd 19)).need [46]).text 1) A (by omega) ((calls_name _).1.trans (calls_need _ _).1) ((calls_name _).2.1.trans (calls_need _ _).2.1) (by rw [hid, hl]; omega) ?_
    generalize ({ ((s.node u (nd 19)).need [46]).name with calls := ((s.node u (nd 19)).need [46]).name.calls ++ [((s.node u (nd 19)).need [46]).name.idAt s.rows.length], wants := ((s.node u (nd 19)).need [46]).name.wants ++ [m ++ [32] ++ ((s.node u (nd 19)).need [46]).text 1] } : Rd) = b at h ⊢
    by_cases hb : b.enter.bad = true
    ·
     rw [if_pos hb] at h
     injection h with h; subst h
     exact es_within (EStep.refl _)
    ·
     rw [if_neg hb] at h
     cases he : args f true (b.enter.need [40]) s.rows.length with
     | none => rw [he] at h; simp at h
     | some s1 =>
       rw [he] at h
       injection h with h; subst h
       exact es_within ((es_need _ _).trans (iha _ _ _ _ he))
   ·
    rw [args] at h
    by_cases hb : s.bad = true
    ·
     rw [if_pos hb] at h
     injection h with h; subst h
     exact EStep.refl _
    rw [if_neg hb] at h
    by_cases hn : s.next [41] = true
    ·
     rw [if_pos hn] at h
     injection h with h; subst h
     exact es_step _
    rw [if_neg hn] at h
    cases he : expr f (if b = true then s else s.need [44]) n with
    | none => rw [he] at h; simp at h
    | some s1 =>
      rw [he] at h
      refine EStep.trans ?_ ((ihe _ _ _ he).trans (iha _ _ _ _ h))
      split
      ·
       exact EStep.refl _
      ·
       exact es_need _ _
end Rd
end Hg
namespace Hg
namespace Rd
structure SStep (s s' : Rd) : Prop where
 grow : Grow s s'
 inv : Inv s → Inv s'
 deep : s'.deep = s.deep
 level : s'.level = s.level
 mods : s'.mods = s.mods
 funcs : s'.funcs = s.funcs
 ids : s'.ids = s.ids
theorem EStep.s {a b : Rd} (h : EStep a b) : SStep a b := ⟨h.grow, h.inv, h.deep, h.level, h.mods, h.funcs, h.ids⟩
theorem SStep.refl (s : Rd) : SStep s s := (EStep.refl s).s
theorem SStep.trans {a b c : Rd} (h : SStep a b) (k : SStep b c) : SStep a c :=
 ⟨h.grow.trans k.grow, fun x => k.inv (h.inv x), k.deep.trans h.deep, k.level.trans h.level, k.mods.trans h.mods, k.funcs.trans h.funcs, k.ids.trans h.ids⟩
theorem fault_same (s : Rd) (e : Nat) : (s.fault e).rows = s.rows ∧ (s.fault e).mods = s.mods ∧ (s.fault e).funcs = s.funcs ∧ (s.fault e).ids = s.ids ∧ (s.fault e).calls = s.calls ∧ (s.fault e).wants = s.wants ∧ (s.fault e).used = s.used ∧ (s.fault e).seen = s.seen ∧ (s.fault e).deep = s.deep ∧ (s.fault e).level = s.level := by
 unfold fault; split <;> exact ⟨rfl, rfl, rfl, rfl, rfl, rfl, rfl, rfl, rfl, rfl⟩
theorem inv_push {s : Rd} (h : Inv s) (t : Str) (b : Bound) (hu : s.used.length < s.rows.length) : Inv { s with used := s.used ++ [t], seen := s.seen ++ [b] } :=
 ⟨h.mods, h.funcs, h.ids, h.calls, h.wants, by simp; omega, by simp; exact h.seen, h.kids, h.rid, h.callr⟩
theorem inv_declare {s : Rd} (h : Inv s) (t : Str) (k : Nat) (hu : s.used.length < s.rows.length) : Inv (s.declare t k) := by
 unfold declare
 dsimp only
 split
 ·
  obtain ⟨e1, _, _, _, _, _, e7, e8, _, _⟩ := fault_same s 10
  have hf := (es_fault s 10).inv h
  exact inv_push hf t _ (by rw [e1, e7]; exact hu)
 ·
  exact inv_push h t _ hu
theorem declare_same (s : Rd) (t : Str) (k : Nat) : (s.declare t k).deep = s.deep ∧ (s.declare t k).level = s.level ∧ (s.declare t k).mods = s.mods ∧ (s.declare t k).funcs = s.funcs ∧ (s.declare t k).ids = s.ids ∧ (s.declare t k).rows = s.rows := by
 unfold declare
 dsimp only
 split
 ·
  obtain ⟨e1, e2, e3, e4, _, _, _, _, e9, e10⟩ := fault_same s 10
  exact ⟨e9, e10, e2, e3, e4, e1⟩
 ·
  exact ⟨rfl, rfl, rfl, rfl, rfl, rfl⟩
theorem ss_declare {s a : Rd} (A : EStep s a) (hr : s.rows.length < a.rows.length) (t : Str) (k : Nat) : SStep s (a.declare t k) := by
 obtain ⟨d1, d2, d3, d4, d5, d6⟩ := declare_same a t k
 exact ⟨A.grow.trans (grow_declare a t k), fun h => inv_declare (A.inv h) t k (by rw [A.used]; have := h.used; omega), d1.trans A.deep, d2.trans A.level, d3.trans A.mods, d4.trans A.funcs, d5.trans A.ids⟩
theorem setLevel_grow (s : Rd) (n : Nat) : Grow s { s with level := n } := grow_same rfl (Nat.le_refl _) id rfl
theorem setLevel_inv {s : Rd} (h : Inv s) (n : Nat) : Inv { s with level := n } := inv_same h rfl rfl rfl rfl rfl rfl rfl (Nat.le_refl _)
theorem enter_same (s : Rd) : s.enter.deep = s.deep + 1 ∧ s.enter.level = s.level ∧ s.enter.mods = s.mods ∧ s.enter.funcs = s.funcs ∧ s.enter.ids = s.ids := by
 unfold enter; dsimp only; split <;> exact ⟨rfl, rfl, rfl, rfl, rfl⟩
theorem inv_enter {s : Rd} (h : Inv s) : Inv s.enter := by unfold enter; dsimp only; split <;> exact inv_same h rfl rfl rfl rfl rfl rfl rfl (Nat.le_refl _)
theorem inv_shut {s : Rd} (h : Inv s) : Inv s.leave.shut := inv_same h rfl rfl rfl rfl rfl rfl rfl (List.length_filter_le _ _)
def head (s : Rd) (u : Nat) : Rd := ({ (s.node u (nd 5)) with level := (s.node u (nd 5)).level + 1 } : Rd)
theorem ss_block {s s1 : Rd} {u : Nat} (h : SStep (s.head u).enter s1) : SStep s s1.leave.shut := by
 have hn := es_node s u (nd 5) (kids_nd 5)
 obtain ⟨e1, e2, e3, e4, e5⟩ := enter_same (s.head u)
 refine ⟨hn.grow.trans ((setLevel_grow _ _).trans ((grow_enter _).trans (h.grow.trans ((grow_leave _).trans (grow_shut _))))), fun x => inv_shut (h.inv (inv_enter (setLevel_inv (hn.inv x) _))), ?_, ?_, ?_, ?_, ?_⟩
 ·
  show s1.deep - 1 = s.deep
  rw [h.deep, e1]
  show (s.node u (nd 5)).deep + 1 - 1 = s.deep
  rw [hn.deep]; omega
 ·
  show s1.level - 1 = s.level
  rw [h.level, e2]
  show (s.node u (nd 5)).level + 1 - 1 = s.level
  rw [hn.level]; omega
 ·
  show s1.mods = s.mods
  rw [h.mods, e3]; exact hn.mods
 ·
  show s1.funcs = s.funcs
  rw [h.funcs, e4]; exact hn.funcs
 ·
  show s1.ids = s.ids
  rw [h.ids, e5]; exact hn.ids
theorem stmt_ss (f : Nat) : (∀ s u s', stmt f s u = some s' → SStep s s') ∧ (∀ s u s', block f s u = some s' → SStep s s') ∧ (∀ s n s', stmts f s n = some s' → SStep s s') := by
 induction f with
 | zero => exact ⟨fun _ _ _ h => by simp [stmt] at h, fun _ _ _ h => by simp [block] at h, fun _ _ _ h => by simp [stmts] at h⟩
 | succ f ih =>
   obtain ⟨ihs, ihb, ihl⟩ := ih
   have E := expr_es f
   refine ⟨fun s u s' h => ?_, fun s u s' h => ?_, fun s n s' h => ?_⟩
   ·
    rw [stmt] at h
    try dsimp only at h
    by_cases h1 : s.next wLet = true
    ·
     rw [if_pos h1] at h
     generalize hx : ((s.step.name.node u (ndNamed 6 (s.step.text 1))).typed.2.setType s.rows.length (s.step.name.node u (ndNamed 6 (s.step.text 1))).typed.1).need [61] = a at h
     have A : EStep s a := by
      rw [← hx]
      exact ((((es_step s).trans (es_name _)).trans (es_node _ _ _ (kids_ndNamed _ _))).trans (es_typed _)).trans ((es_setType _ _ _).trans (es_need _ _))
     have hr : s.rows.length < a.rows.length := by
      have g1 : Grow (s.step.name.node u (ndNamed 6 (s.step.text 1))) a := by
       rw [← hx]
       exact (grow_typed _).trans ((grow_setType _ _ _).trans (grow_need _ _))
      have g2 := g1.len
      rw [len_node] at g2
      have g3 := ((grow_step s).trans (grow_name _)).len
      omega
     cases he : expr f a s.rows.length with
     | none => rw [he] at h; simp at h
     | some b =>
       rw [he] at h
       injection h with h
       subst h
       have B := E.1 _ _ _ he
       exact (ss_declare (A.trans B) (Nat.lt_of_lt_of_le hr B.grow.len) _ _).trans (es_need _ _).s
    rw [if_neg h1] at h
    by_cases h2 : s.next wIf = true
    ·
     rw [if_pos h2] at h
     cases he : expr f (s.step.node u (nd 8)) s.rows.length with
     | none => rw [he] at h; simp at h
     | some a =>
       rw [he] at h
       dsimp only at h
       cases hb : block f a s.rows.length with
       | none => rw [hb] at h; simp at h
       | some b =>
         rw [hb] at h
         exact (((es_step s).trans (es_node _ _ _ (kids_nd _))).trans (E.1 _ _ _ he)).s.trans ((ihb _ _ _ hb).trans ((es_need _ _).s.trans (ihb _ _ _ h)))
    rw [if_neg h2] at h
    by_cases h3 : s.next wWhile = true
    ·
     rw [if_pos h3] at h
     cases he : expr f (s.step.node u (nd 9)) s.rows.length with
     | none => rw [he] at h; simp at h
     | some a =>
       rw [he] at h
       exact (((es_step s).trans (es_node _ _ _ (kids_nd _))).trans (E.1 _ _ _ he)).s.trans (ihb _ _ _ h)
    rw [if_neg h3] at h
    by_cases h4 : s.next wPrint = true
    ·
     rw [if_pos h4] at h
     cases he : expr f (s.step.node u (nd 11)) s.rows.length with
     | none => rw [he] at h; simp at h
     | some a =>
       rw [he] at h
       injection h with h
       subst h
       exact ((((es_step s).trans (es_node _ _ _ (kids_nd _))).trans (E.1 _ _ _ he)).trans (es_need _ _)).s
    rw [if_neg h4] at h
    by_cases h5 : s.next wDo = true
    ·
     rw [if_pos h5] at h
     generalize hx : (s.step.node u (nd 12)) = a at h
     cases he : call f a.name s.rows.length (a.text 1) with
     | none => rw [he] at h; simp at h
     | some b =>
       rw [he] at h
       injection h with h
       subst h
       have A : EStep s a := by rw [← hx]; exact (es_step s).trans (es_node _ _ _ (kids_nd _))
       exact (((A.trans (es_name _)).trans (E.2.1 _ _ _ _ he)).trans (es_need _ _)).s
    rw [if_neg h5] at h
    generalize hx : (s.name.node u (nd 7)) = a at h
    have A : EStep s a := by rw [← hx]; exact (es_name s).trans (es_node _ _ _ (kids_nd _))
    cases he : expr f (((a.find (s.text 1)).2.setRef s.rows.length (a.find (s.text 1)).1).need [61]) s.rows.length with
    | none => rw [he] at h; simp at h
    | some b =>
      rw [he] at h
      injection h with h
      subst h
      exact (((((A.trans (es_find _ _)).trans (es_setRef _ _ _)).trans (es_need _ _)).trans (E.1 _ _ _ he)).trans (es_need _ _)).s
   ·
    rw [block] at h
    try dsimp only at h
    change (if (s.head u).enter.bad = true then some (s.head u).enter.leave.shut else (stmts f ((s.head u).enter.need [123]) s.rows.length).map (fun r => r.leave.shut)) = some s' at h
    by_cases hb : (s.head u).enter.bad = true
    ·
     rw [if_pos hb] at h
     injection h with h
     subst h
     exact ss_block (SStep.refl _)
    ·
     rw [if_neg hb] at h
     cases he : stmts f ((s.head u).enter.need [123]) s.rows.length with
     | none => rw [he] at h; simp at h
     | some a =>
       rw [he] at h
       injection h with h
       subst h
       exact ss_block ((es_need _ _).s.trans (ihl _ _ _ he))
   ·
    rw [stmts] at h
    by_cases hb : s.bad = true
    ·
     rw [if_pos hb] at h
     injection h with h
     subst h
     exact SStep.refl _
    rw [if_neg hb] at h
    by_cases hn : s.next [125] = true
    ·
     rw [if_pos hn] at h
     injection h with h
     subst h
     exact (es_step _).s
    rw [if_neg hn] at h
    cases he : stmt f s n with
    | none => rw [he] at h; simp at h
    | some a =>
      rw [he] at h
      exact (ihs _ _ _ he).trans (ihl _ _ _ h)
end Rd
end Hg
namespace Hg
namespace Rd
theorem params_ss : ∀ (f : Nat) (b : Bool) (s : Rd) (k : Nat) (s' : Rd), params f b s k = some s' → SStep s s' := by
 intro f
 induction f with
 | zero => intro b s k s' h; simp [params] at h
 | succ f ih =>
   intro b s k s' h
   rw [params] at h
   by_cases hb : s.bad = true
   ·
    rw [if_pos hb] at h; injection h with h; subst h; exact SStep.refl _
   rw [if_neg hb] at h
   by_cases hn : s.next [41] = true
   ·
    rw [if_pos hn] at h; injection h with h; subst h; exact (es_step _).s
   rw [if_neg hn] at h
   dsimp only at h
   have A0 : EStep s (if b = true then s else s.need [44]) := by split <;> first | exact EStep.refl _ | exact es_need _ _
   generalize (if b = true then s else s.need [44]) = r at h A0
   have hl : (r.name.node k (ndNamed 4 (r.text 1))).rows.length = r.rows.length + 1 := by rw [len_node, (calls_name _).2.2]
   have A : EStep s ((r.name.node k (ndNamed 4 (r.text 1))).typed.2.setType r.rows.length (r.name.node k (ndNamed 4 (r.text 1))).typed.1) :=
    ((A0.trans (es_name _)).trans (es_node _ _ _ (kids_ndNamed _ _))).trans ((es_typed _).trans (es_setType _ _ _))
   have hr : s.rows.length < ((r.name.node k (ndNamed 4 (r.text 1))).typed.2.setType r.rows.length (r.name.node k (ndNamed 4 (r.text 1))).typed.1).rows.length := by
    have g1 := ((grow_typed (r.name.node k (ndNamed 4 (r.text 1)))).trans (grow_setType _ r.rows.length (r.name.node k (ndNamed 4 (r.text 1))).typed.1)).len
    have g2 := A0.grow.len
    omega
   exact (ss_declare A hr _ _).trans (ih _ _ _ _ h)
theorem body_ss : ∀ (f : Nat) (s : Rd) (n : Nat) (s' : Rd), body f s n = some s' → SStep s s' := by
 intro f
 induction f with
 | zero => intro s n s' h; simp [body] at h
 | succ f ih =>
   intro s n s' h
   rw [body] at h
   by_cases hb : s.bad = true ∨ s.next wReturn = true
   ·
    rw [if_pos hb] at h; injection h with h; subst h; exact SStep.refl _
   rw [if_neg hb] at h
   cases he : stmt f s n with
   | none => rw [he] at h; simp at h
   | some a =>
     rw [he] at h
     exact ((stmt_ss f).1 _ _ _ he).trans (ih _ _ _ h)
structure FStep (s s' : Rd) : Prop where
 grow : Grow s s'
 inv : Inv s → Inv s'
 deep : s'.deep = s.deep
 mods : s'.mods = s.mods
theorem SStep.f {a b : Rd} (h : SStep a b) : FStep a b := ⟨h.grow, h.inv, h.deep, h.mods⟩
theorem FStep.refl (s : Rd) : FStep s s := (SStep.refl s).f
theorem FStep.trans {a b c : Rd} (h : FStep a b) (k : FStep b c) : FStep a c := ⟨h.grow.trans k.grow, fun x => k.inv (h.inv x), k.deep.trans h.deep, k.mods.trans h.mods⟩
def openF (s : Rd) (t : Str) (k : Nat) : Rd := { s with funcs := s.funcs ++ [t], ids := s.ids ++ [s.idAt k], used := [], seen := [], level := 0 }
theorem fs_open {s a : Rd} (A : FStep s a) (hf : a.funcs = s.funcs) (hr : s.rows.length < a.rows.length) (t : Str) (k : Nat) : FStep s (a.openF t k) := by
 refine ⟨A.grow.trans (grow_same rfl (Nat.le_refl _) id rfl), fun h => ?_, A.deep, A.mods⟩
 have ha := A.inv h
 exact ⟨ha.mods, by show (a.funcs ++ [t]).length ≤ _; rw [hf]; have := h.funcs; simp only [List.length_append, List.length_singleton]; show _ ≤ a.rows.length; omega, by show (a.ids ++ [_]).length = (a.funcs ++ [t]).length; simp [ha.ids], ha.calls, ha.wants, by simp [openF], by simp [openF], ha.kids, ha.rid, ha.callr⟩
theorem clash_fs (s : Rd) (b : Bool) : EStep s (if b = true then s.fault 10 else s) := by split <;> first | exact es_fault _ _ | exact EStep.refl _
theorem func_fs (f : Nat) (s : Rd) (u : Nat) (m : Str) (s' : Rd) (h : func f s u m = some s') : FStep s s' := by
 unfold func at h
 dsimp only at h
 have A1 : EStep s (s.need wFunc).name := (es_need _ _).trans (es_name _)
 generalize (s.need wFunc).text 1 = t at h
 generalize (s.need wFunc).name = a at h A1
 have A2 : EStep s (if inL a.funcs (m ++ [32] ++ t) = true then a.fault 10 else a) := A1.trans (clash_fs _ _)
 generalize (if inL a.funcs (m ++ [32] ++ t) = true then a.fault 10 else a) = b at h A2
 change (match params f true (((b.node u (ndNamed 3 t)).openF (m ++ [32] ++ t) b.rows.length).need [40]) b.rows.length with
  | none => none
  | some r => _) = some s' at h
 have A3 := A2.trans (es_node b u (ndNamed 3 t) (kids_ndNamed _ _))
 have hl : s.rows.length < (b.node u (ndNamed 3 t)).rows.length := by rw [len_node]; have := A2.grow.len; omega
 have A4 : FStep s ((b.node u (ndNamed 3 t)).openF (m ++ [32] ++ t) b.rows.length) := fs_open A3.s.f A3.funcs hl _ _
 generalize (b.node u (ndNamed 3 t)).openF (m ++ [32] ++ t) b.rows.length = c at h A4
 cases hp : params f true (c.need [40]) b.rows.length with
 | none => rw [hp] at h; simp at h
 | some p =>
   rw [hp] at h
   dsimp only at h
   have A5 : FStep s p := A4.trans ((es_need _ _).s.trans (params_ss _ _ _ _ _ hp)).f
   have A6 : FStep s (((p.typed.2.setType b.rows.length p.typed.1).node b.rows.length (nd 5)).need [123]) :=
    A5.trans ((((es_typed p).trans (es_setType _ _ _)).trans (es_node _ _ _ (kids_nd _))).trans (es_need _ _)).s.f
   generalize ((p.typed.2.setType b.rows.length p.typed.1).node b.rows.length (nd 5)).need [123] = q at h A6
   cases hq : body f q (p.typed.2.setType b.rows.length p.typed.1).rows.length with
   | none => rw [hq] at h; simp at h
   | some v =>
     rw [hq] at h
     dsimp only at h
     have A7 := A6.trans (body_ss _ _ _ _ hq).f
     cases hx : expr f ((v.need wReturn).node (p.typed.2.setType b.rows.length p.typed.1).rows.length (nd 10)) (v.need wReturn).rows.length with
     | none => rw [hx] at h; simp at h
     | some x =>
       rw [hx] at h
       injection h with h
       subst h
       exact A7.trans (((((es_need v wReturn).trans (es_node _ _ _ (kids_nd _))).trans ((expr_es f).1 _ _ _ hx)).trans (es_need _ _)).trans (es_need _ _)).s.f
end Rd
end Hg
namespace Hg
namespace Rd
theorem funcsLoop_fs (f : Nat) : ∀ (g : Nat) (s : Rd) (m : Nat) (t : Str) (s' : Rd), funcsLoop f g s m t = some s' → FStep s s' := by
 intro g
 induction g with
 | zero => intro s m t s' h; simp [funcsLoop] at h
 | succ g ih =>
   intro s m t s' h
   rw [funcsLoop] at h
   by_cases hb : s.bad = true
   ·
    rw [if_pos hb] at h; injection h with h; subst h; exact FStep.refl _
   rw [if_neg hb] at h
   by_cases hn : s.next [125] = true
   ·
    rw [if_pos hn] at h; injection h with h; subst h; exact (es_step _).s.f
   rw [if_neg hn] at h
   cases he : func f s m t with
   | none => rw [he] at h; simp at h
   | some a =>
     rw [he] at h
     exact (func_fs _ _ _ _ _ he).trans (ih _ _ _ _ h)
structure MInv (s : Rd) : Prop where
 inv : Inv s
 lt : s.mods.length < s.rows.length
theorem minv_es {s a : Rd} (h : MInv s) (e : EStep s a) : MInv a := ⟨e.inv h.inv, by rw [e.mods]; exact Nat.lt_of_lt_of_le h.lt e.grow.len⟩
theorem minv_push {s : Rd} (h : MInv s) (t : Str) : Inv { s with mods := s.mods ++ [t] } :=
 ⟨by simp; exact h.lt, h.inv.funcs, h.inv.ids, h.inv.calls, h.inv.wants, h.inv.used, h.inv.seen, h.inv.kids, h.inv.rid, h.inv.callr⟩
theorem minv_node {s : Rd} (h : Inv s) (u : Nat) (n : Node) (hn : n.kids = []) : MInv (s.node u n) := ⟨inv_node h u n hn, by rw [len_node]; have := h.mods; show s.mods.length < _; omega⟩
theorem minv_fs {s a : Rd} (h : MInv s) (e : FStep s a) : MInv a := ⟨e.inv h.inv, by rw [e.mods]; exact Nat.lt_of_lt_of_le h.lt e.grow.len⟩
theorem modsLoop_ps (f : Nat) : ∀ (g : Nat) (s : Rd) (root : Nat) (s' : Rd), modsLoop f g s root = some s' → Grow s s' ∧ s'.deep = s.deep ∧ (MInv s → MInv s') := by
 intro g
 induction g with
 | zero => intro s r s' h; simp [modsLoop] at h
 | succ g ih =>
   intro s root s' h
   rw [modsLoop] at h
   by_cases hb : s.bad = true ∨ s.L.length ≤ s.at_
   ·
    rw [if_pos hb] at h; injection h with h; subst h; exact ⟨Grow.refl _, rfl, id⟩
   rw [if_neg hb] at h
   dsimp only at h
   have A1 : EStep s (s.need wModule).name := (es_need _ _).trans (es_name _)
   generalize (s.need wModule).text 1 = t at h
   generalize (s.need wModule).name = a at h A1
   have A2 : EStep s (if inL a.mods t = true then a.fault 10 else a) := A1.trans (clash_fs _ _)
   generalize (if inL a.mods t = true then a.fault 10 else a) = b at h A2
   generalize hc : ({ b with mods := b.mods ++ [t] } : Rd) = c at h
   have gc : Grow b c := by rw [← hc]; exact grow_same rfl (Nat.le_refl _) id rfl
   have dc : c.deep = b.deep := by rw [← hc]
   cases he : funcsLoop f f ((c.node root (ndNamed 2 t)).need [123]) b.rows.length t with
   | none => rw [he] at h; simp at h
   | some d =>
     rw [he] at h
     obtain ⟨g1, d1, m1⟩ := ih _ _ _ h
     have F := funcsLoop_fs _ _ _ _ _ _ he
     have N := es_node c root (ndNamed 2 t) (kids_ndNamed _ _)
     have D := es_need (c.node root (ndNamed 2 t)) [123]
     refine ⟨A2.grow.trans (gc.trans (N.grow.trans (D.grow.trans (F.grow.trans g1)))), ?_, fun hm => m1 (minv_fs (minv_es (minv_node ?_ _ _ (kids_ndNamed _ _)) D) F)⟩
     ·
      rw [d1, F.deep, D.deep, N.deep, dc, A2.deep]
     ·
      rw [← hc]; exact minv_push (minv_es hm A2) t
theorem link_es : ∀ (is : List Nat) (ws : List Str) (s : Rd), EStep s (link is ws s) := by
 intro is
 induction is with
 | nil => intro ws s; cases ws <;> exact EStep.refl _
 | cons i is ih =>
   intro ws s
   cases ws with
   | nil => exact EStep.refl _
   | cons t ws =>
     rw [link]
     refine EStep.trans ?_ (ih ws _)
     refine EStep.trans ?_ (es_setRef _ _ _)
     split <;> first | exact es_fault _ _ | exact EStep.refl _
end Rd
end Hg
