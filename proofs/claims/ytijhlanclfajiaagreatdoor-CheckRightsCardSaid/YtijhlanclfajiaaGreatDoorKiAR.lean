/-
  A part of the proof.
-/
import Derived.Test.YtijhlanclfajiaaGreatDoorKiAQ
import Derived.Test.YtijhlanclfajiaaGreatDoorKiAD
set_option linter.all false
set_option maxHeartbeats 32000000
set_option maxRecDepth 100000
namespace Go.Proofs.YtijhlanclfajiaaGreatDoor
open Go.RowKit
theorem R4{P:Program}{k:TypeId}{R:Value→Option (DataW Value×List MemPlace)}{w:World}{b n:Nat}{D:DataW Value}(h:w.ownsMap P k R b n D):w.ownsMap P k R b (Maps.size D) D:=by
 obtain⟨es,clock,hb,F,hs,rfl⟩:=h;exact⟨es,clock,hb,F,by simp[Maps.size,length_sorted],rfl⟩
theorem J3{w w':World}{B mb:Nat}{v:Value}{n:Nat}{xs:List Value}{es:Array MapEntry}{clock:Nat}(h:Sl w B v n xs)(hB:B≤w.heap.size)(hm:w.heap[mb]? =some (.map es clock))(hg:w.grownBy w' (some mb)):Sl w' B v n xs:=by
 obtain⟨a,c,rfl,hc⟩:=h;refine⟨a,c,rfl,fun hn=> ?_⟩;obtain⟨b,o,rfl,hb,hx⟩:=hc hn;refine⟨b,o,rfl,hb,fun j hj=> ?_⟩;rw[←hx j hj];refine World.cell?_of_block (hg.block b (by omega) (fun e=> ?_));injection e with e;have:=hx j hj;subst e
 simp[World.cell?,hm] at this
theorem M4{P:Program}{k:TypeId}{R:Value→Option (DataW Value×List MemPlace)}{w:World}{b n:Nat}{D:DataW Value}(h:w.ownsMap P k R b n D):∃es clock,w.heap[b]? =some (.map es clock):=by
 obtain⟨es,clock,hb,_⟩:=h;exact⟨es,clock,hb⟩
theorem PY{i j:Nat}(h:i≠j):idL i≠idL j:=by
 intro e;injection e with _ e;omega
def putM(M:Nat→Option Hg.Node)(id:Nat)(nd:Hg.Node):Nat→Option Hg.Node:=fun i=>if i=id then some nd else M i
theorem Cc.store{Z:Nat→Prop}{w:World}{mb c:Nat}{M:Nat→Option Hg.Node}(h:Cc Z w mb c M)(hc20:c≤1000000){id:Nat}(hid:id < Aj)(nd:Hg.Node)(ka:Option Addr)(kc:Nat)
 (hs:Sl w w.heap.size (.slice ka nd.kids.length kc) nd.kids.length (nd.kids.map idV)) (hl:nd.kids.length≤1000000) (hz:∀q,(Value.slice ka nd.kids.length kc).ownBlock=some q→Z q):
 ∃w',(Instr.mapUpdate 49 (.map (some mb)) (.int .u64 (id:Int)) (ndV nd ka kc)).run Tryz.prog w= .ok () w'∧Cc Z w' mb (if (M id).isSome then c else c+1) (putM M id nd)∧w.grownBy w' (some mb):=by
 obtain⟨⟨D,ho,hc,hk⟩,hbd⟩:=h;obtain⟨w',hrun,ho',hg⟩:=ho.update BM Tryz.underlying49 (by unfold maxLen;omega) (BZ hid) (val:=ndV nd ka kc) (d:= .held (ndV nd ka kc)) (ps:=[]) rfl;obtain⟨es,clock,hm⟩:=M4 ho;have hkey:WideAt.IsKeyLit (idL id):=BM.key (BZ hid);have htid:=ho.tidy BM;have hsize:Maps.size (D.put (idL id) (.held (ndV nd ka kc)))=if (M id).isSome then c else c+1:=by
  rw[Maps.size_put htid,hc];have hx:=hk id hid;cases hM:M id with
  |none=>rw[hM] at hx;rw[show Maps.has D (idL id)=false from hx];simp
  |some n0=>rw[hM] at hx;obtain⟨_,_,h1,_⟩:=hx;rw[Maps.has_true_of_atKey h1];simp
 refine⟨w',hrun,⟨⟨_, ?_,hsize,fun i hi=> ?_⟩,fun i n hn=> ?_⟩,hg⟩
 ·have:=R4 ho'
  rw[hsize] at this;exact this
 ·unfold putM
  by_cases e:i=id
  ·rw[if_pos e,e]
   exact⟨ka,kc,fun z=>Maps.atKey_put_same htid.isMap hkey _ _,(J3 hs AA hm hg).more hg.size,hz⟩
  ·rw[if_neg e]
   have hx:=hk i hi;cases hM:M i with
   |none=>
     rw[hM] at hx;show Maps.has _ _=false;rw[Maps.has_put_other (PY e)];exact hx
   |some n0=>
     rw[hM] at hx;obtain⟨k1,k2,h1,h2,h3⟩:=hx;exact⟨k1,k2,fun z=>by rw[Maps.atKey_put_other (PY e)];exact h1 z,(J3 h2 AA hm hg).more hg.size,h3⟩
 ·unfold putM at hn
  by_cases e:i=id
  ·rw[if_pos e] at hn;injection hn with hn;rw[←hn];exact hl
  ·rw[if_neg e] at hn;exact hbd i n hn
theorem Cc.made(Z:Nat→Prop)(w:World):Cc Z (w.alloc (.map #[] 0)) w.heap.size 0 (fun _=>none):=
 ⟨⟨.map [],World.ownsMap_made w _ _ _,rfl,fun id hid=>rfl⟩,fun id nd h=>by cases h⟩
def WF:Nat→Option Hg.Node:=putM (fun _=>none) 1 ⟨1,[],0,0,0,[]⟩
theorem YN(Z:Nat→Prop)(w:World):Calls Tryz.prog 16 #[] w fun e w'=>∃ab mb,e= .returned (.pointer (some ⟨ab,0,none⟩))∧w.heap.size≤ab∧w.heap.size≤mb∧EY Z w' ab mb 1 WF∧Below w.heap.size w w':=by
 have hmm:= @run_makeMap Tryz.prog;obtain⟨W1,hrun,hA,hg⟩:=(Cc.made Z w).store (by omega) (id:=1) (by decide) ⟨1,[],0,0,0,[]⟩ none 0 (Sl.nil _ _) (by simp) (fun q h=>by cases h);have hrun2:(Instr.mapUpdate 49 (.map (some w.heap.size)) (.int .u64 1) (.agg #[.int .u8 1,.string ⟨#[]⟩,.int .i64 0,.int .u8 0,.int .u64 0,.slice none 0 0])).run Tryz.prog (w.alloc (.map #[] 0))= .ok () W1:=hrun;have hb1:Below w.heap.size w W1:=((Below.refl w.heap.size w).alloc AA _).grown hg (by simp) (fun k hk=>by injection hk with hk;omega);have HA:=zz hA;clear hrun hA hg;go_enter Tryz.func16,Tryz.ntmps16;go_wp2_with fail;go_ret;refine⟨W1.heap.size,w.heap.size,rfl,hb1.size,AA,⟨AZ _ _, ?_⟩,hb1.alloc hb1.size _⟩;exact HA.out.below ((AP).alloc AA _) AA
end Go.Proofs.YtijhlanclfajiaaGreatDoor
