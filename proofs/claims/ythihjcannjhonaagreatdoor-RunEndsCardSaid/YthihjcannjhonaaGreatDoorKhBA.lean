/-
  A part of the proof.
-/
import Derived.Test.YthihjcannjhonaaGreatDoorKhAY
import Derived.Test.YthihjcannjhonaaGreatDoorKhAX
set_option linter.all false
namespace Go.Proofs.YthihjcannjhonaaGreatDoor
open Go.RowKit Go.Sort Go.Lib
open Hg (GT gl)
section
variable {α:Type} [Inhabited α]
theorem ZF{w:World}{g:Nat}{cur:Array Value}{e:TypeId}(enc:α→Value){ss:List α}(hb:w.heap[g]? =some (.cells cur e (0,0)))(ht:cur.toList.take ss.length=ss.map enc):Holds enc w g 0 ss.toArray:=by
 intro j hj;have hj':j < ss.length:=by simpa using hj
 refine⟨?_,by simp[World.frozen?,hb]⟩;have h1:(cur.toList.take ss.length)[j]? =(ss.map enc)[j]? :=by rw[ht]
 rw[List.getElem?_take_of_lt hj'] at h1;simp only[World.cell?,hb,Nat.zero_add];simp only[Option.isSome_none,Bool.false_eq_true,if_false];rw[←Array.getElem?_toList,h1]
 simp[hj']
theorem ZX{w:World}{g n:Nat}{cur:Array Value}{e:TypeId}{fr:Nat×Nat}(enc:α→Value)(d:Array α)(hb:w.heap[g]? =some (.cells cur e fr)):
 (putRow enc (Sort.ahead w n) g 0 d).heap[g]? =some (.cells (putCells enc 0 d cur) e fr):=by
 simp[putRow,mapBlock,Sort.ahead,Array.getElem?_modify,hb,onCells]
theorem frE{w:World}{g n:Nat}(enc:α→Value)(d:Array α):Fr (fun q=>q=g) w (putRow enc (Sort.ahead w n) g 0 d):=by
 refine⟨rfl,rfl,rfl,by simp[Sort.ahead],fun k hk hne=> ?_⟩;have:g≠k:=fun e=>hne e.symm
 simp[putRow,mapBlock,Sort.ahead,Array.getElem?_modify,this]
theorem ZU(enc:α→Value)(cur:Array Value)(ts:List α)(h:ts.length≤cur.size):(putCells enc 0 ts.toArray cur).toList.take ts.length=ts.map enc:=by
 apply List.ext_getElem?;intro j;by_cases hj:j < ts.length
 ·rw[List.getElem?_take_of_lt hj,Array.getElem?_toList]
  simp[putCells,hj,show j < cur.size by omega]
 ·rw[List.getElem?_take_eq_none (by omega),List.getElem?_eq_none (by simp;omega)]
theorem ownE{w:World}{base g cap n:Nat}{e:TypeId}{cur:Array Value}(enc:α→Value){ts:List α}(hbase:base≤g)(hb:w.heap[g]? =some (.cells cur e (0,0)))
 (h1:ts.length≤cap) (h2:cap≤maxLen) (h3:cur.size=cap*1):
 (putRow enc (Sort.ahead w n) g 0 ts.toArray).ownsRow base e 1 (.slice (some ⟨g,0,none⟩) ts.length cap) ts.length (ts.map enc):=
 ⟨by simp,.inr ⟨g,cap,_,rfl,hbase,ZX enc _ hb,h1,h2,by simp[putCells,h3],by rw[Nat.mul_one];exact ZU enc cur ts (by omega)⟩⟩
end
theorem Y8:OneCell idV:=fun x=>rfl
theorem QY(B:Nat)(v:Value)(xs:List Nat)(w:World)(hl:xs.length≤1000000)(ho:w.ownsRow B 51 1 v xs.length (xs.map idV)):
 Calls Tryz.prog 136 #[v] w fun e w'=>e= .returned (.tuple #[])∧w'.ownsRow B 51 1 v xs.length (xs.reverse.map idV)∧Fr (fun q=>v.ownBlock=some q) w w':=by
 rcases ho.2 with⟨h0,hn⟩|⟨g,cap,cur,hv,hg,hh,hc1,hc2,hc3,ht⟩
 ·subst h0
  have hx:xs=[]:=List.length_eq_zero_iff.1 hn;subst hx;refine(AnyE.slices_Reverse_empty Tryz.lRev none 0 w).mono ?_;rintro e w' ⟨rfl,rfl⟩;exact⟨rfl,ho,Fr.refl _ _⟩
 ·subst hv
  rw[Nat.mul_one] at ht;refine(AnyE.slices_Reverse Tryz.lRev idV Y8 g 0 cap xs w (ZF idV hh ht) (by omega)).mono ?_;rintro e w' ⟨rfl,n,rfl⟩;refine⟨rfl, ?_,(frE idV _).imp (fun q _ e=>by rw[e];rfl)⟩;have:=ownE (n:=n) idV (ts:=xs.reverse) hg hh (by simpa using hc1) hc2 hc3;rw[List.length_reverse] at this;exact this
end Go.Proofs.YthihjcannjhonaaGreatDoor
