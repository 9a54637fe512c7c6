/-
  A part of the proof.
-/
import Derived.Test.YtijhlanclfajiaaGreatDoorProg
import Derived.Test.YtijhlanclfajiaaGreatDoorKiAE
import Derived.WalkSpells
import Derived.WalkLawsBesides
set_option linter.all false
set_option maxHeartbeats 32000000
set_option maxRecDepth 100000
namespace Go.Proofs.YtijhlanclfajiaaGreatDoor
open Go.RowKit
theorem BJ(c:UInt8)(w:World):
 Calls Tryz.prog 84 #[.int .u8 (c.toNat:Int)] w fun e w'=>e= .returned (.int .i64 (Hg.cls c))∧w=w':=by
 have hc:c.toNat≤255:=by have:=c.toNat_lt;omega
 have hfin:∀z:Int,((97≤c.toNat∧c.toNat≤122)∨(65≤c.toNat∧c.toNat≤90)∨c.toNat=95→z=1)→
  (¬((97≤c.toNat∧c.toNat≤122)∨(65≤c.toNat∧c.toNat≤90)∨c.toNat=95)→48≤c.toNat∧c.toNat≤57→z=2)→
  (¬((97≤c.toNat∧c.toNat≤122)∨(65≤c.toNat∧c.toNat≤90)∨c.toNat=95)→¬(48≤c.toNat∧c.toNat≤57)→c.toNat=32∨c.toNat=9∨c.toNat=10→z=3)→
  (¬((97≤c.toNat∧c.toNat≤122)∨(65≤c.toNat∧c.toNat≤90)∨c.toNat=95)→¬(48≤c.toNat∧c.toNat≤57)→¬(c.toNat=32∨c.toNat=9∨c.toNat=10)→z=0)→z=(Hg.cls c:Int):=by
  intro z h1 h2 h3 h4;unfold Hg.cls;split
  ·exact h1 (by assumption)
  ·split
   ·exact h2 (by assumption) (by assumption)
   ·split
    ·exact h3 (by assumption) (by assumption) (by assumption)
    ·exact h4 (by assumption) (by assumption) (by assumption)
 have HF:=zz hfin;clear hfin;generalize c.toNat=n at*;go_enter Tryz.func84,Tryz.ntmps84;go_wp2
 all_goals (go_ret;refine⟨DJ (HF.out _ ?_ ?_ ?_ ?_),rfl⟩)
 all_goals (intros;first|omega|(simp only[Bool.or_eq_true,Bool.or_eq_false_iff,beq_iff_eq,beq_eq_false_iff_ne] at*;omega)|(simp only[Bool.or_eq_true,Bool.or_eq_false_iff,beq_iff_eq,beq_eq_false_iff_ne] at*))
theorem PX(xs:List (List UInt8))(s:List UInt8)(k:Nat)(hk:k < xs.length)(h:xs[k]=s):Hg.inL xs s=true:=by
 unfold Hg.inL;rw[List.any_eq_true];exact⟨xs[k],List.getElem_mem hk,by simpa using h⟩
theorem NQ(xs:List (List UInt8))(s:List UInt8)(h:∀k,(hk:k < xs.length)→xs[k]≠s):Hg.inL xs s=false:=by
 unfold Hg.inL;rw[List.any_eq_false];intro x hx;obtain⟨j,hj,he⟩:=List.mem_iff_getElem.1 hx;have:=h j hj;rw[he] at this;simpa using this
theorem Eu(B:Nat)(v:Value)(xs:List (List UInt8))(s:List UInt8)(w:World)
 (hx:Sl w B v xs.length (xs.map strV)) (hl:xs.length≤1000000000):
  Calls Tryz.prog 85 #[v,.string ⟨s.toArray⟩] w fun e w'=>e= .returned (.bool (Hg.inL xs s))∧w=w':=by
 obtain⟨a,c,rfl⟩:=hx.form;have HX:=zz hx;clear hx;go_enter Tryz.func85,Tryz.ntmps85;go_wp2
 go_loop [9] (fun i=>∃k:Nat,k≤xs.length∧i= .int .i64 k∧∀j,j < k→(hj:j < xs.length)→xs[j]≠s) (fun i=>xs.length-(intOf i).toNat)
 case atStart=>exact⟨0,by omega,rfl,fun j hj=>by omega⟩
 case round=>
  obtain⟨k,hk,rfl,hno⟩:=hrel;have HN:=zz hno;clear hno;by_cases hlt:k < xs.length
  ·obtain⟨b,o,rfl,_,hc⟩:=HX.out.strAt hlt
   by_cases hid:xs[k]=s
   ·have hq:(xs[k]==s)=true:=by simp[hid]
    have hfin:=zz (PX xs s k hlt hid);clear hid;go_wp2;go_ret;exact⟨AQ hfin.out.symm,rfl⟩
   ·have hq:(xs[k]==s)=false:=by simp[hid]
    have HI:=zz hid;clear hid;go_wp2
    go_round
    case rel=>exact⟨k+1,by omega,by go_num,fun j hj hj2=>by
     by_cases e:j=k
     ·subst e;exact HI.out
     ·exact HN.out j (by omega) hj2⟩
    case measure=>simp[intOf];omega
  ·obtain rfl:k=xs.length:=by omega
   have hfin:=zz (NQ xs s fun j hj=>HN.out j hj hj);go_wp2;go_ret;exact⟨AQ hfin.out.symm,rfl⟩
theorem PZ(B:Nat)(v:Value)(xs:List (List UInt8))(s:List UInt8)(w:World)
 (hx:Sl w B v xs.length (xs.map strV)) (hl:xs.length≤1000000000):
  Calls Tryz.prog 92 #[v,.string ⟨s.toArray⟩] w fun e w'=>e= .returned (.bool (Hg.inL xs s))∧w=w':=by
 obtain⟨a,c,rfl⟩:=hx.form;have HX:=zz hx;clear hx;go_enter Tryz.func92,Tryz.ntmps92;go_wp2
 go_loop [9] (fun i=>∃k:Nat,k≤xs.length∧i= .int .i64 k∧∀j,j < k→(hj:j < xs.length)→xs[j]≠s) (fun i=>xs.length-(intOf i).toNat)
 case atStart=>exact⟨0,by omega,rfl,fun j hj=>by omega⟩
 case round=>
  obtain⟨k,hk,rfl,hno⟩:=hrel;have HN:=zz hno;clear hno;by_cases hlt:k < xs.length
  ·obtain⟨b,o,rfl,_,hc⟩:=HX.out.strAt hlt
   by_cases hid:xs[k]=s
   ·have hq:(xs[k]==s)=true:=by simp[hid]
    have hfin:=zz (PX xs s k hlt hid);clear hid;go_wp2;go_ret;exact⟨AQ hfin.out.symm,rfl⟩
   ·have hq:(xs[k]==s)=false:=by simp[hid]
    have HI:=zz hid;clear hid;go_wp2
    go_round
    case rel=>exact⟨k+1,by omega,by go_num,fun j hj hj2=>by
     by_cases e:j=k
     ·subst e;exact HI.out
     ·exact HN.out j (by omega) hj2⟩
    case measure=>simp[intOf];omega
  ·obtain rfl:k=xs.length:=by omega
   have hfin:=zz (NQ xs s fun j hj=>HN.out j hj hj);go_wp2;go_ret;exact⟨AQ hfin.out.symm,rfl⟩
theorem GM(w:World):
 Calls Tryz.prog 86 #[] w fun e w'=>∃v,e= .returned v∧Sl w' w'.heap.size v 14 (Hg.words.map strV)∧Below w.heap.size w w':=by
 go_enter Tryz.func86,Tryz.ntmps86;go_wp2;go_ret;refine⟨_,rfl, ?_,(AP).alloc AA _⟩;have h:=Sl.new w 9 14 (Hg.words.map strV).toArray;simpa[Hg.words,Hg.Pz,Hg.wDo,Hg.LV,Hg.Gq,Hg.Df,Hg.wIf,Hg.wInt,Hg.wLet,Hg.DI,Hg.IE,Hg.Jv,Hg.Br,Hg.Ju,Hg.IC] using h
theorem EM(w:World):
 Calls Tryz.prog 88 #[] w fun e w'=>∃v,e= .returned v∧Sl w' w'.heap.size v 22 (Hg.signs.map strV)∧Below w.heap.size w w':=by
 go_enter Tryz.func88,Tryz.ntmps88;go_wp2;go_ret;refine⟨_,rfl, ?_,(AP).alloc AA _⟩;have h:=Sl.new w 9 22 (Hg.signs.map strV).toArray;simpa[Hg.signs] using h
theorem YD(w:World):
 Calls Tryz.prog 193 #[] w fun e w'=>∃v,e= .returned v∧Sl w' w'.heap.size v 13 (Hg.Rd.ops.map strV)∧Below w.heap.size w w':=by
 go_enter Tryz.func193,Tryz.ntmps193;go_wp2;go_ret;refine⟨_,rfl, ?_,(AP).alloc AA _⟩;have h:=Sl.new w 9 13 (Hg.Rd.ops.map strV).toArray;simpa[Hg.Rd.ops] using h
theorem XO(c:UInt8):Hg.cls c≤3:=by
 unfold Hg.cls;repeat' split
 all_goals omega
theorem OL(s:List UInt8)(h:0 < s.length):Hg.Cb s=(decide (s.length≤64) && (Hg.cls s[0]==1) && s.all Hg.Ba):=by
 cases s with
 |nil=>simp at h
 |cons c r=>simp[Hg.Cb]
theorem Oc{c:UInt8}(h:((Hg.cls c:Int) !=1)=false∨((Hg.cls c:Int) !=2)=false):Hg.Ba c=true:=by
 unfold Hg.Ba;simp only[bne_eq_false_iff_eq,Bool.or_eq_true,beq_iff_eq] at*;omega
theorem Nw{c:UInt8}(h1:((Hg.cls c:Int) !=1)=true)(h2:((Hg.cls c:Int) !=2)=true):Hg.Ba c=false:=by
 unfold Hg.Ba;simp only[bne_iff_ne,ne_eq,Bool.or_eq_false_iff,beq_eq_false_iff_ne] at*;omega
theorem MU(s:List UInt8)(p:UInt8→Bool)(k:Nat)(hk:k < s.length)(h:p s[k]=false):s.all p=false:=by
 rw[List.all_eq_false];exact⟨s[k],List.getElem_mem hk,by simp[h]⟩
theorem Im(s:List UInt8)(p:UInt8→Bool)(h:∀k,(hk:k < s.length)→p s[k]=true):s.all p=true:=by
 rw[List.all_eq_true];intro x hx;obtain⟨j,hj,he⟩:=List.mem_iff_getElem.1 hx;rw[←he];exact h j hj
theorem Gb(s:List UInt8)(hs:s.length≤1000000000)(w:World):
 Calls Tryz.prog 64 #[.string ⟨s.toArray⟩] w fun e w'=>e= .returned (.bool (Hg.Cb s))∧w=w':=by
 by_cases h0:0 < s.length
 ·have hd0:decide ((s.length:Int) < 1)=false:=by simp;omega
  have he:=zz (OL s h0);by_cases h64:s.length≤64
  ·have hd1:decide (64 < (s.length:Int))=false:=by simp;omega
   by_cases hc:Hg.cls s[0]=1
   ·have hq:((Hg.cls s[0]:Int) !=1)=false:=by simp[hc]
    have HC:=zz hc;clear hc;go_enter Tryz.func64,Tryz.ntmps64
    go_wp2_with (go_at_call 84;refine(BJ _ _).mono ?_;rintro e w' ⟨rfl,rfl⟩)
    go_loop [3] (fun i=>∃k:Nat,k≤s.length∧i= .int .i64 k∧∀j,j < k→(hj:j < s.length)→Hg.Ba s[j]=true) (fun i=>s.length-(intOf i).toNat)
    case atStart=>exact⟨0,by omega,rfl,fun j hj=>by omega⟩
    case round=>
     obtain⟨k,hk,rfl,hno⟩:=hrel;have HN:=zz hno;clear hno hq;by_cases hlt:k < s.length
     ·by_cases h1:((Hg.cls s[k]:Int) !=1)=false
      ·go_wp2_with (go_at_call 84;refine(BJ _ _).mono ?_;rintro e w' ⟨rfl,rfl⟩)
       go_round
       case rel=>exact⟨k+1,by omega,by go_num,fun j hj hj2=>by
        by_cases e:j=k
        ·subst e;exact Oc (.inl h1)
        ·exact HN.out j (by omega) hj2⟩
       case measure=>simp[intOf];omega
      ·replace h1:((Hg.cls s[k]:Int) !=1)=true:=by simpa using h1
       by_cases h2:((Hg.cls s[k]:Int) !=2)=false
       ·go_wp2_with (go_at_call 84;refine(BJ _ _).mono ?_;rintro e w' ⟨rfl,rfl⟩)
        go_round
        case rel=>exact⟨k+1,by omega,by go_num,fun j hj hj2=>by
         by_cases e:j=k
         ·subst e;exact Oc (.inr h2)
         ·exact HN.out j (by omega) hj2⟩
        case measure=>simp[intOf];omega
       ·replace h2:((Hg.cls s[k]:Int) !=2)=true:=by simpa using h2
        have hf:=zz (MU s Hg.Ba k hlt (Nw h1 h2))
        go_wp2_with (go_at_call 84;refine(BJ _ _).mono ?_;rintro e w' ⟨rfl,rfl⟩)
        go_ret;exact⟨AQ (by rw[he.out,hf.out];simp),rfl⟩
     ·obtain rfl:k=s.length:=by omega
      have hf:=zz (Im s Hg.Ba fun j hj=>HN.out j hj hj);go_wp2;go_ret;exact⟨AQ (by rw[he.out,hf.out,HC.out];simp;omega),rfl⟩
   ·have hq:((Hg.cls s[0]:Int) !=1)=true:=by simp;omega
    have HC:=zz hc;clear hc;go_enter Tryz.func64,Tryz.ntmps64
    go_wp2_with (go_at_call 84;refine(BJ _ _).mono ?_;rintro e w' ⟨rfl,rfl⟩)
    go_ret;exact⟨AQ (by rw[he.out];simp[HC.out]),rfl⟩
  ·have hd1:decide (64 < (s.length:Int))=true:=by simp;omega
   go_enter Tryz.func64,Tryz.ntmps64
   go_wp2_with (go_at_call 84;refine(BJ _ _).mono ?_;rintro e w' ⟨rfl,rfl⟩)
   go_ret;exact⟨AQ (by rw[he.out];simp;omega),rfl⟩
 ·obtain rfl:s=[]:=List.eq_nil_of_length_eq_zero (by omega)
  clear h0;go_enter Tryz.func64,Tryz.ntmps64
  go_wp2_with (go_at_call 84;refine(BJ _ _).mono ?_;rintro e w' ⟨rfl,rfl⟩)
  go_ret;exact⟨rfl,rfl⟩
theorem WS(s:List UInt8)(k:Nat)(hk:k < Hg.Rd.ops.length)(h:Hg.Rd.ops[k]=s)(hno:∀j,j < k→(hj:j < Hg.Rd.ops.length)→Hg.Rd.ops[j]≠s):Hg.Rd.opOf s=k+1:=by
 have:Hg.Rd.ops.findIdx? (· ==s)=some k:=by
  rw[List.findIdx?_eq_some_iff_getElem];exact⟨hk,by simpa using h,fun j hj=>by simpa using hno j hj (by omega)⟩
 simp[Hg.Rd.opOf,this]
theorem Ut(s:List UInt8)(hno:∀j,(hj:j < Hg.Rd.ops.length)→Hg.Rd.ops[j]≠s):Hg.Rd.opOf s=0:=by
 have:Hg.Rd.ops.findIdx? (· ==s)=none:=by
  rw[List.findIdx?_eq_none_iff];intro x hx;obtain⟨j,hj,he⟩:=List.mem_iff_getElem.1 hx;have:=hno j hj;rw[he] at this;simpa using this
 simp[Hg.Rd.opOf,this]
theorem YF(s:List UInt8)(w:World):
 Calls Tryz.prog 167 #[.string ⟨s.toArray⟩] w fun e w'=>e= .returned (.int .i64 (Hg.Rd.opOf s))∧Below w.heap.size w w':=by
 have hl:Hg.Rd.ops.length=13:=rfl;have H1:=zz (@WS s);have H2:=zz (@Ut s);generalize Hg.Rd.opOf s=res at H1 H2;generalize hxs:Hg.Rd.ops=xs at*;have HO:∀w:World,Calls Tryz.prog 193 #[] w fun e w'=>∃v,e= .returned v∧Sl w' w'.heap.size v 13 (xs.map strV)∧Below w.heap.size w w':=by
  rw[←hxs];exact YD
 clear hxs;have HO:=zz HO;go_enter Tryz.func167,Tryz.ntmps167
 go_wp2_with (go_at_call 193;refine(HO.out _).mono ?_;rintro e w1 ⟨v,rfl,hx,hb⟩;obtain⟨a,c,rfl⟩:=hx.form)
 have HX:=zz hx;have HL:=zz hl;clear hx hl
 go_loop [7] (fun i=>∃k:Nat,k≤13∧i= .int .i64 k∧∀j,j < k→(hj:j < xs.length)→xs[j]≠s) (fun i=>13-(intOf i).toNat)
 case atStart=>exact⟨0,by omega,rfl,fun j hj=>by omega⟩
 case round=>
  obtain⟨k,hk,rfl,hno⟩:=hrel;have HN:=zz hno;clear hno;by_cases hlt:k < 13
  ·have hlt':k < xs.length:=by rw[HL.out];exact hlt
   obtain⟨b,o,rfl,_,hc⟩:=(show Sl _ _ _ xs.length _ by rw[HL.out];exact HX.out).strAt hlt';by_cases hid:xs[k]=s
   ·have hq:(xs[k]==s)=true:=by simp[hid]
    have hfin:=zz (H1.out k hlt' hid fun j hj hj2=>HN.out j hj hj2);clear hid;go_wp2;go_ret;exact⟨DJ (by rw[hfin.out];simp),hb⟩
   ·have hq:(xs[k]==s)=false:=by simp[hid]
    have HI:=zz hid;clear hid;go_wp2
    go_round
    case rel=>exact⟨k+1,by omega,by go_num,fun j hj hj2=>by
     by_cases e:j=k
     ·subst e;exact HI.out
     ·exact HN.out j (by omega) hj2⟩
    case measure=>simp[intOf];omega
  ·obtain rfl:k=13:=by omega
   have hfin:=zz (H2.out fun j hj=>HN.out j (by have:=HL.out;omega) hj);go_wp2;go_ret;exact⟨DJ (by rw[hfin.out];rfl),hb⟩
def letB(c:UInt8):Bool:=decide (Hg.cls c=1)
def digB(c:UInt8):Bool:=decide (Hg.cls c=2)
theorem Wj(c:UInt8)(z:Bool)(h1:(97≤c.toNat∧c.toNat≤122)∨(65≤c.toNat∧c.toNat≤90)∨c.toNat=95→z=true)(h2:¬((97≤c.toNat∧c.toNat≤122)∨(65≤c.toNat∧c.toNat≤90)∨c.toNat=95)→z=false):z=letB c:=by
 unfold letB Hg.cls;by_cases h:(97≤c.toNat∧c.toNat≤122)∨(65≤c.toNat∧c.toNat≤90)∨c.toNat=95
 ·rw[if_pos h,h1 h];rfl
 ·rw[if_neg h,h2 h]
  split
  ·rfl
  ·split <;>rfl
theorem XL(c:UInt8)(z:Bool)(h1:48≤c.toNat∧c.toNat≤57→z=true)(h2:¬(48≤c.toNat∧c.toNat≤57)→z=false):z=digB c:=by
 unfold digB Hg.cls;by_cases h:48≤c.toNat∧c.toNat≤57
 ·rw[if_neg (by omega),if_pos h,h1 h];rfl
 ·rw[h2 h]
  repeat' split
  all_goals rfl
theorem VC(c:UInt8):Hg.Ba c=(letB c||digB c):=by
 unfold Hg.Ba letB digB;rw[Bool.eq_iff_iff];simp
theorem NF(c:UInt8)(w:World):Calls Tryz.prog 146 #[.int .u8 (c.toNat:Int)] w fun e w'=>e= .returned (.bool (letB c))∧w=w':=by
 have hc:c.toNat≤255:=by have:=c.toNat_lt;omega
 have HF:=zz (Wj c);generalize letB c=r at HF⊢;generalize c.toNat=n at*;go_enter Tryz.func146,Tryz.ntmps146;go_wp2
 all_goals (go_ret;refine⟨AQ (HF.out _ ?_ ?_),rfl⟩)
 all_goals (intros;first|omega|(simp only[decide_eq_true_eq,decide_eq_false_iff_not,Bool.or_eq_true,Bool.or_eq_false_iff,beq_iff_eq,beq_eq_false_iff_ne] at*;omega)|(simp only[decide_eq_true_eq,decide_eq_false_iff_not,Bool.or_eq_true,Bool.or_eq_false_iff,beq_iff_eq,beq_eq_false_iff_ne] at*))
theorem VP(c:UInt8)(w:World):Calls Tryz.prog 147 #[.int .u8 (c.toNat:Int)] w fun e w'=>e= .returned (.bool (digB c))∧w=w':=by
 have hc:c.toNat≤255:=by have:=c.toNat_lt;omega
 have HF:=zz (XL c);generalize digB c=r at HF⊢;generalize c.toNat=n at*;go_enter Tryz.func147,Tryz.ntmps147;go_wp2
 all_goals (go_ret;refine⟨AQ (HF.out _ ?_ ?_),rfl⟩)
 all_goals (intros;first|omega|(simp only[decide_eq_true_eq,decide_eq_false_iff_not,Bool.or_eq_true,Bool.or_eq_false_iff,beq_iff_eq,beq_eq_false_iff_ne] at*;omega)|(simp only[decide_eq_true_eq,decide_eq_false_iff_not,Bool.or_eq_true,Bool.or_eq_false_iff,beq_iff_eq,beq_eq_false_iff_ne] at*))
def idxS(xs:List (List UInt8))(s:List UInt8):Int:=match xs.findIdx? (· ==s) with|some k=>(k:Int)|none=> -1
theorem Ww(l:List (List UInt8))(s:List UInt8)(k:Nat)(hk:k < l.length)(h:l[k]=s)(hno:∀j,j < k→(hj:j < l.length)→l[j]≠s):idxS l s=(k:Int):=by
 have:l.findIdx? (· ==s)=some k:=by
  rw[List.findIdx?_eq_some_iff_getElem];exact⟨hk,by simpa using h,fun j hj=>by simpa using hno j hj (by omega)⟩
 simp[idxS,this]
theorem VE(l:List (List UInt8))(s:List UInt8)(hno:∀j,(hj:j < l.length)→l[j]≠s):idxS l s= -1:=by
 have:l.findIdx? (· ==s)=none:=by
  rw[List.findIdx?_eq_none_iff];intro x hx;obtain⟨j,hj,he⟩:=List.mem_iff_getElem.1 hx;have:=hno j hj;rw[he] at this;simpa using this
 simp[idxS,this]
theorem Wu(l:List (List UInt8))(s:List UInt8):Hg.inL l s=decide (0≤idxS l s):=by
 unfold Hg.inL idxS;cases h:l.findIdx? (· ==s) with
 |none=>
   rw[List.findIdx?_eq_none_iff] at h;rw[show decide ((0:Int)≤-1)=false from rfl,List.any_eq_false];intro x hx;simp[h x hx]
 |some k=>
   obtain⟨hk,h1,_⟩:=List.findIdx?_eq_some_iff_getElem.1 h;rw[show decide ((0:Int)≤(k:Int))=true by simp,List.any_eq_true];exact⟨l[k],List.getElem_mem hk,h1⟩
theorem SL(B:Nat)(v:Value)(xs:List (List UInt8))(s:List UInt8)(w:World)(hx:Sl w B v xs.length (xs.map strV))(hl:xs.length≤1000000000):
 Calls Tryz.prog 152 #[v,.string ⟨s.toArray⟩] w fun e w'=>e= .returned (.int .i64 (idxS xs s))∧w=w':=by
 obtain⟨a,c,rfl⟩:=hx.form;have HX:=zz hx;clear hx;go_enter Tryz.func152,Tryz.ntmps152;go_wp2
 go_loop [8] (fun i=>∃k:Nat,k≤xs.length∧i= .int .i64 k∧∀j,j < k→(hj:j < xs.length)→xs[j]≠s) (fun i=>xs.length-(intOf i).toNat)
 case atStart=>exact⟨0,by omega,rfl,fun j hj=>by omega⟩
 case round=>
  obtain⟨k,hk,rfl,hno⟩:=hrel;have HN:=zz hno;clear hno;by_cases hlt:k < xs.length
  ·obtain⟨b,o,rfl,_,hc⟩:=HX.out.strAt hlt
   by_cases hid:xs[k]=s
   ·have hq:(s==xs[k])=true:=by simp[hid]
    have hfin:=zz (Ww xs s k hlt hid HN.out);clear hid;go_wp2;go_ret;exact⟨DJ hfin.out.symm,rfl⟩
   ·have hq:(s==xs[k])=false:=by simpa using fun e=>hid (Eq.symm e)
    have HI:=zz hid;clear hid;go_wp2
    go_round
    case rel=>exact⟨k+1,by omega,by go_num,fun j hj hj2=>by
     by_cases e:j=k
     ·subst e;exact HI.out
     ·exact HN.out j (by omega) hj2⟩
    case measure=>simp[intOf];omega
  ·obtain rfl:k=xs.length:=by omega
   have hfin:=zz (VE xs s fun j hj=>HN.out j hj hj);go_wp2;go_ret;exact⟨DJ hfin.out.symm,rfl⟩
theorem N7(B:Nat)(v:Value)(xs:List (List UInt8))(s:List UInt8)(w:World)(hx:Sl w B v xs.length (xs.map strV))(hl:xs.length≤1000000000):
 Calls Tryz.prog 126 #[v,.string ⟨s.toArray⟩] w fun e w'=>e= .returned (.bool (Hg.inL xs s))∧w=w':=by
 have TI:=SL B v xs s w hx hl;rw[Wu];generalize idxS xs s=q at TI⊢;go_enter Tryz.func126,Tryz.ntmps126
 go_wp2_with (go_at_call 152;refine TI.mono ?_;rintro e w' ⟨rfl,rfl⟩)
 go_ret;exact⟨rfl,rfl⟩
theorem OJ(s:List UInt8)(h:s=[]∨64 < s.length):Hg.Cb s=false:=by
 cases s with
 |nil=>rfl
 |cons c r=>
   rcases h with h|h
   ·cases h
   ·have:decide ((c::r).length≤64)=false:=by simp at h⊢;omega
    simp only[Hg.Cb,this,Bool.false_and]
theorem Ro(s:List UInt8)(w:World)(hs:s.length≤1000000000):
 Calls Tryz.prog 123 #[.string ⟨s.toArray⟩] w fun e w'=>e= .returned (.bool (Hg.Cb s))∧w=w':=by
 by_cases h0:s=[]
 ·rw[OJ s (.inl h0)]
  subst h0;go_enter Tryz.func123,Tryz.ntmps123;go_wp2;go_ret;exact⟨rfl,rfl⟩
 have hl0:0 < s.length:=by cases s with|nil=>exact absurd rfl h0|cons _ _=>simp
 have hd0:s.isEmpty=false:=by simpa using h0
 have hd1:(s==[])=false:=by simpa using h0
 by_cases h64:64 < s.length
 ·rw[OJ s (.inr h64)]
  have hq:decide (64 < (s.length:Int))=true:=by simp;omega
  have hq':decide (64 < s.length)=true:=by simpa using h64
  have H0:=zz h0;clear h0 h64;go_enter Tryz.func123,Tryz.ntmps123;go_wp2;go_ret;exact⟨rfl,rfl⟩
 have hq:decide (64 < (s.length:Int))=false:=by simp;omega
 have hq':decide (64 < s.length)=false:=by simpa using h64
 have he:=OL s hl0;rw[show decide (s.length≤64)=true by simp;omega,Bool.true_and,show(Hg.cls s[0]==1)=letB s[0] by unfold letB;rw[Bool.eq_iff_iff];simp] at he;have H64:=zz h64;have H0:=zz h0;have HE:=zz he;have TL:=NF s[0];clear h0 h64 he;cases hl:letB s[0] with
 |false=>
   rw[hl] at TL;have hf:Hg.Cb s=false:=by rw[HE.out,hl];rfl
   rw[hf];clear hl hf;go_enter Tryz.func123,Tryz.ntmps123
   go_wp2_with (go_at_call 146;refine(TL _).mono ?_;rintro e w' ⟨rfl,rfl⟩)
   go_ret;exact⟨rfl,rfl⟩
 |true=>
   rw[hl] at TL;have hf:Hg.Cb s=s.all Hg.Ba:=by rw[HE.out,hl];rfl
   rw[hf];clear hl hf;go_enter Tryz.func123,Tryz.ntmps123
   go_wp2_with (go_at_call 146;refine(TL _).mono ?_;rintro e w' ⟨rfl,rfl⟩)
   go_loop [19] (fun i=>∃k:Nat,k≤s.length∧i= .int .i64 k∧∀j,j < k→(hj:j < s.length)→Hg.Ba s[j]=true) (fun i=>s.length-(intOf i).toNat)
   case atStart=>exact⟨0,by omega,rfl,fun j hj=>by omega⟩
   case round=>
    obtain⟨k,hk,rfl,hno⟩:=hrel;have HN:=zz hno;clear hno TL;by_cases hlt:k < s.length
    ·have TL:=NF s[k]
     have TD:=VP s[k];have hp:=VC s[k];cases h1:letB s[k] with
     |true=>
       rw[h1] at TL hp;have HP:=zz hp;clear h1 hp
       go_wp2_with (go_at_call 146;refine(TL _).mono ?_;rintro e w' ⟨rfl,rfl⟩)
       go_round
       case rel=>exact⟨k+1,by omega,by go_num,fun j hj hj2=>by
        by_cases e:j=k
        ·subst e;rw[HP.out];rfl
        ·exact HN.out j (by omega) hj2⟩
       case measure=>simp[intOf];omega
     |false=>
       cases h2:digB s[k] with
       |true=>
         rw[h1,h2] at hp;rw[h1] at TL;rw[h2] at TD;have HP:=zz hp;clear h1 h2 hp
         go_wp2_with (first|(go_at_call 146;refine(TL _).mono ?_;rintro e w' ⟨rfl,rfl⟩)|(go_at_call 147;refine(TD _).mono ?_;rintro e w' ⟨rfl,rfl⟩))
         go_round
         case rel=>exact⟨k+1,by omega,by go_num,fun j hj hj2=>by
          by_cases e:j=k
          ·subst e;rw[HP.out];rfl
          ·exact HN.out j (by omega) hj2⟩
         case measure=>simp[intOf];omega
       |false=>
         rw[h1,h2] at hp;rw[h1] at TL;rw[h2] at TD;have hf:=zz (MU s Hg.Ba k hlt (by rw[hp];rfl));clear h1 h2 hp
         go_wp2_with (first|(go_at_call 146;refine(TL _).mono ?_;rintro e w' ⟨rfl,rfl⟩)|(go_at_call 147;refine(TD _).mono ?_;rintro e w' ⟨rfl,rfl⟩))
         go_ret;exact⟨AQ hf.out.symm,rfl⟩
    ·obtain rfl:k=s.length:=by omega
     have hf:=zz (Im s Hg.Ba fun j hj=>HN.out j hj hj);go_wp2;go_ret;exact⟨AQ hf.out.symm,rfl⟩
theorem Va(l:List Hg.Row)(id k:Nat)(r:Hg.Row)(hr:l[k]? =some r)(h:r.id=id)(hno:∀j r,j < k→l[j]? =some r→r.id≠id):Hg.Ki l id=(k:Int):=by
 have:Hg.atI l id=some k:=by
  unfold Hg.atI;rw[List.findIdx?_eq_some_iff_getElem];obtain⟨hk,he⟩:=Af.1 hr;refine⟨hk,by rw[he];simpa using h,fun j hj=> ?_⟩;have:=hno j l[j] hj (AX (by omega));simpa using this
 simp[Hg.Ki,this]
theorem TJ(l:List Hg.Row)(id:Nat)(hno:∀(j:Nat) (r:Hg.Row),j < l.length→l[j]? =some r→r.id≠id):Hg.Ki l id= -1:=by
 have:Hg.atI l id=none:=by
  unfold Hg.atI;rw[List.findIdx?_eq_none_iff];intro r hr;obtain⟨j,hj,he⟩:=List.mem_iff_getElem.1 hr;have:=hno j r hj (by rw[AX hj,he]);simpa using this
 simp[Hg.Ki,this]
theorem DV(B:Nat)(v:Value)(l:List Hg.Row)(id:Nat)(w:World)(hB:B≤w.heap.size)(hx:Aw w B v l)(hl:l.length≤1000000000):
 Calls Tryz.prog 111 #[v,.int .u64 id] w fun e w'=>e= .returned (.int .i64 (Hg.Ki l id))∧Below w.heap.size w w':=by
 have hX:=zz hx;obtain⟨a,c,rfl,hc⟩:=hx.open_;clear hx hc;go_enter Tryz.func111,Tryz.ntmps111;go_wp2
 go_loopw [9] (fun i wr=>∃k:Nat,k≤l.length∧i= .int .i64 k∧Below w.heap.size w wr∧∀(j:Nat) (r:Hg.Row),j < k→l[j]? =some r→r.id≠id) (fun i wr=>l.length-(intOf i).toNat)
 case atStart=>exact⟨0,by omega,rfl,AP,fun j r hj=>by omega⟩
 case round=>
  obtain⟨k,hk,rfl,hb,hno⟩:=hrel;have HN:=zz hno;clear hno;by_cases hlt:k < l.length
  ·obtain⟨a',c',he,hc⟩:=(hX.out.below hb hB).open_
   obtain⟨b,o,ha,hbB,hcell⟩:=hc (by omega);obtain⟨rfl,rfl⟩:a'=a∧c'=c:=by injection he with h1 h2 h3;exact⟨h1.symm,h3.symm⟩
   clear he hc;subst ha;obtain⟨ka,kc,_,h0,h1,h2,h3,h4,h5,h6⟩:=hcell k l[k] (AX hlt);clear hcell;by_cases hid:l[k].id=id
   ·have hq:((l[k].id:Int)==(id:Int))=true:=by simp[hid]
    have HI:=zz hid;clear hid;go_wp2;go_ret;exact⟨DJ (Va l id k l[k] (AX hlt) HI.out HN.out).symm,hb.alloc hb.size _⟩
   ·have hq:((l[k].id:Int)==(id:Int))=false:=by simp;omega
    have HI:=zz hid;clear hid;go_wp2;go_roundw
    case rel=>exact⟨k+1,by omega,by go_num,hb.alloc hb.size _,fun j r hj hr=>by
     by_cases e:j=k
     ·subst e;rw[AX hlt] at hr;injection hr with hr;rw[←hr];exact HI.out
     ·exact HN.out j r (by omega) hr⟩
    case measure=>simp[intOf];omega
  ·obtain rfl:k=l.length:=by omega
   go_wp2;go_ret;exact⟨DJ (TJ l id HN.out).symm,hb⟩
theorem Ua(s:List UInt8)(m:Nat)(hs:s.length≤9223372036854775807)(hm:m≤1000000000)(w:World):
 Calls Tryz.prog 14 #[.string ⟨s.toArray⟩,.int .i64 m] w fun e w'=>e= .returned (strV (s.take m))∧w=w':=by
 go_enter Tryz.func14,Tryz.ntmps14;by_cases h:m < s.length
 ·have e1:(min (s.length:Int) (m:Int)).toNat=m:=by omega
  go_wp2;go_ret;refine⟨?_,rfl⟩
  first
   |rfl
   |simp[strV,e1]
 ·have e1:(min (s.length:Int) (m:Int)).toNat=s.length:=by omega
  have e2:List.take m s=s:=List.take_of_length_le (by omega);go_wp2;go_ret;refine⟨?_,rfl⟩
  simp[strV,e1,e2]
theorem NY(k:Nat)(hk:k≤255)(w:World):
 Calls Tryz.prog 114 #[.int .u8 (k:Int)] w fun e w'=>e= .returned (.bool (Hg.EC k))∧w=w':=by
 by_cases h1:13≤k
 ·by_cases h2:k≤20
  ·have hr:=zz (show Hg.EC k=true by unfold Hg.EC;simp[h1,h2])
   have q1:decide ((13:Int)≤(k:Int))=true:=by simp;omega
   have q2:decide ((k:Int)≤20)=true:=by simp;omega
   go_enter Tryz.func114,Tryz.ntmps114;go_wp2;go_ret;exact⟨AQ hr.out.symm,rfl⟩
  ·have hr:=zz (show Hg.EC k=false by unfold Hg.EC;simp[h2])
   have q1:decide ((13:Int)≤(k:Int))=true:=by simp;omega
   have q2:decide ((k:Int)≤20)=false:=by simp;omega
   go_enter Tryz.func114,Tryz.ntmps114;go_wp2;go_ret;exact⟨AQ hr.out.symm,rfl⟩
 ·have hr:=zz (show Hg.EC k=false by unfold Hg.EC;simp[h1])
  have q1:decide ((13:Int)≤(k:Int))=false:=by simp;omega
  go_enter Tryz.func114,Tryz.ntmps114;go_wp2;go_ret;exact⟨AQ hr.out.symm,rfl⟩
theorem RN(k:Nat)(hk:k≤255)(w:World):
 Calls Tryz.prog 60 #[.int .u8 (k:Int)] w fun e w'=>e= .returned (strV [Hg.BO k])∧w=w':=by
 have hc:k=2∨k=3∨k=4∨k=5∨k=6∨k=7∨k=8∨k=9∨k=10∨k=11∨k=12∨k=13∨k=14∨k=15∨k=16∨k=17∨k=18∨k=19∨k=20∨(k < 2∨20 < k):=by omega
 rcases hc with rfl|rfl|rfl|rfl|rfl|rfl|rfl|rfl|rfl|rfl|rfl|rfl|rfl|rfl|rfl|rfl|rfl|rfl|rfl|hx
 case inr.inr.inr.inr.inr.inr.inr.inr.inr.inr.inr.inr.inr.inr.inr.inr.inr.inr.inr=>
  have hr:=zz (show Hg.BO k=88 by unfold Hg.BO Hg.EC;simp only[decide_eq_true_eq,Bool.and_eq_true];repeat (rw[if_neg (by omega)]));have he:=zz (show Hg.EC k=false by unfold Hg.EC;simp only[Bool.and_eq_false_iff,decide_eq_false_iff_not];omega);rcases hx with hx|hx
  all_goals
   go_enter Tryz.func60,Tryz.ntmps60
   go_wp2_with (go_at_call 114;refine(NY k hk _).mono ?_;rintro e w' ⟨rfl,rfl⟩;rw[he.out])
   go_ret;refine⟨?_,rfl⟩;rw[hr.out];rfl
 all_goals
  go_enter Tryz.func60,Tryz.ntmps60
  go_wp2_with (go_at_call 114;refine(NY _ hk _).mono ?_;rintro e w' ⟨rfl,rfl⟩;simp only[Hg.EC,Nat.reduceLeDiff,decide_true,decide_false,Bool.and_true,Bool.and_false,Bool.false_and,Bool.true_and])
  go_ret;exact⟨rfl,rfl⟩
theorem Re(s:List UInt8)(w:World):
 Calls Tryz.prog 65 #[.string ⟨s.toArray⟩] w fun e w'=>e= .returned (.bool (Hg.inL Hg.words s))∧Below w.heap.size w w':=by
 go_enter Tryz.func65,Tryz.ntmps65
 go_wp2_with (go_at_call 86;refine(GM _).mono ?_;rintro e w1 ⟨v1,rfl,hx,hb⟩;obtain⟨a,c,rfl⟩:=hx.form)
 have HX:=zz hx;clear hx
 go_loop [7] (fun i=>∃k:Nat,k≤14∧i= .int .i64 k∧∀j,j < k→(hj:j < Hg.words.length)→Hg.words[j]≠s) (fun i=>14-(intOf i).toNat)
 case atStart=>exact⟨0,by omega,rfl,fun j hj=>by omega⟩
 case round=>
  obtain⟨k,hk,rfl,hno⟩:=hrel;have HN:=zz hno;clear hno;by_cases hlt:k < 14
  ·have hlt':k < Hg.words.length:=hlt
   obtain⟨b,o,rfl,_,hc⟩:=Sl.strAt (l:=Hg.words) HX.out hlt';by_cases hid:Hg.words[k]=s
   ·have hfin:=zz (PX Hg.words s k hlt' hid)
    have hq:(Hg.words[k]==s)=true:=by simp[hid]
    clear hid;generalize Hg.words[k]=x at hc hq;go_wp2;go_ret;exact⟨AQ hfin.out.symm,hb⟩
   ·have hq:(Hg.words[k]==s)=false:=by simp[hid]
    have HI:=zz hid;clear hid;generalize hxx:Hg.words[k]=x at hc hq;clear hxx;go_wp2
    go_round
    case rel=>exact⟨k+1,by omega,by go_num,fun j hj hj2=>by
     by_cases e:j=k
     ·subst e;exact HI.out
     ·exact HN.out j (by omega) hj2⟩
    case measure=>simp[intOf];omega
  ·obtain rfl:k=14:=by omega
   have hfin:=zz (NQ Hg.words s fun j hj=>HN.out j hj hj);go_wp2;go_ret;exact⟨AQ hfin.out.symm,hb⟩
@[reducible] def ndV(n:Hg.Node)(ka:Option Addr)(kc:Nat):Value:=
 .agg #[.int .u8 (n.kind:Int),strV n.name,.int .i64 n.num,.int .u8 (n.type:Int),.int .u64 (n.ref:Int),.slice ka n.kids.length kc]
theorem Qk(a0 a1 a2 a3 a4 a5:Value)(w:World):(Instr.field 44 (.agg #[a0,a1,a2,a3,a4,a5]) 0).run Tryz.prog w= .ok a0 w:=by kernel_rfl
theorem Qj(a0 a1 a2 a3 a4 a5:Value)(w:World):(Instr.field 44 (.agg #[a0,a1,a2,a3,a4,a5]) 1).run Tryz.prog w= .ok a1 w:=by kernel_rfl
theorem Qi(a0 a1 a2 a3 a4 a5:Value)(w:World):(Instr.field 44 (.agg #[a0,a1,a2,a3,a4,a5]) 2).run Tryz.prog w= .ok a2 w:=by kernel_rfl
theorem Qh(a0 a1 a2 a3 a4 a5:Value)(w:World):(Instr.field 44 (.agg #[a0,a1,a2,a3,a4,a5]) 3).run Tryz.prog w= .ok a3 w:=by kernel_rfl
theorem Qg(a0 a1 a2 a3 a4 a5:Value)(w:World):(Instr.field 44 (.agg #[a0,a1,a2,a3,a4,a5]) 4).run Tryz.prog w= .ok a4 w:=by kernel_rfl
theorem Qf(a0 a1 a2 a3 a4 a5:Value)(w:World):(Instr.field 44 (.agg #[a0,a1,a2,a3,a4,a5]) 5).run Tryz.prog w= .ok a5 w:=by kernel_rfl
attribute [simp, go_sem] Qk Qj Qi Qh Qg Qf
def F9(B:Nat)(n:Hg.Node)(w:World)(e:Ending)(w':World):Prop:=
 ∃ka kc,e= .returned (ndV n ka kc)∧Sl w' B (.slice ka n.kids.length kc) n.kids.length (n.kids.map idV)∧Below w.heap.size w w'
theorem F9.mk{B:Nat}{n:Hg.Node}{w:World}{e:Ending}{w':World}{ka:Option Addr}{kc:Nat}(h1:e= .returned (ndV n ka kc))(h2:Sl w' B (.slice ka n.kids.length kc) n.kids.length (n.kids.map idV))(h3:Below w.heap.size w w'):F9 B n w e w':=⟨ka,kc,h1,h2,h3⟩
theorem Dc{l:List Hg.Row}{id k:Nat}(h:Hg.atI l id=some k):Hg.Ki l id=(k:Int):=by simp[Hg.Ki,h]
theorem De{l:List Hg.Row}{id:Nat}(h:Hg.atI l id=none):Hg.Ki l id= -1:=by simp[Hg.Ki,h]
theorem D6{l:List Hg.Row}{id k:Nat}(h:Hg.atI l id=some k):l[k]? =some (Hg.rowAt l k):=by
 unfold Hg.atI at h;obtain⟨hk,_⟩:=List.findIdx?_eq_some_iff_getElem.1 h
 simp[Hg.rowAt,hk]
theorem box6{w w1:World}{v0 v1 v2 v3 v4 v5:Value}{t:TypeId}(hb:Below (w.alloc (.cells #[v0,v1,v2,v3,v4,v5] t)).heap.size (w.alloc (.cells #[v0,v1,v2,v3,v4,v5] t)) w1):
 (w1.cell? ⟨w.heap.size,0,none⟩=some v0∧w1.cell? ⟨w.heap.size,1,none⟩=some v1∧w1.cell? ⟨w.heap.size,2,none⟩=some v2∧w1.cell? ⟨w.heap.size,3,none⟩=some v3∧w1.cell? ⟨w.heap.size,4,none⟩=some v4∧w1.cell? ⟨w.heap.size,5,none⟩=some v5)∧
 (w1.frozen? ⟨w.heap.size,0,none⟩=false∧w1.frozen? ⟨w.heap.size,1,none⟩=false∧w1.frozen? ⟨w.heap.size,2,none⟩=false∧w1.frozen? ⟨w.heap.size,3,none⟩=false∧w1.frozen? ⟨w.heap.size,4,none⟩=false∧w1.frozen? ⟨w.heap.size,5,none⟩=false)∧
 w.heap.size < w1.heap.size∧Below w.heap.size w w1:=by
 have hh:w1.heap[w.heap.size]? =some (.cells #[v0,v1,v2,v3,v4,v5] t (0,0)):=(hb.block w.heap.size (by simp)).trans (AZ w _);have hc:=fun i=>AJ w1 w.heap.size i _ _ (0,0) hh;have hf:∀i,w1.frozen? ⟨w.heap.size,i,none⟩=false:=fun i=>by simp[World.frozen?,hh]
 refine⟨⟨hc 0,hc 1,hc 2,hc 3,hc 4,hc 5⟩,⟨hf 0,hf 1,hf 2,hf 3,hf 4,hf 5⟩, ?_, ?_⟩
 ·have:=hb.size;simp at this;omega
 ·exact((Below.refl w.heap.size w).alloc AA _).trans (hb.mono (by simp))
theorem CO{w w1:World}{B g:Nat}(h:Below B w w1)(hg:B≤g)(u0 u1 u2 u3 u4 u5:Value):
 Below B w ((((((w1.setCell ⟨g,0,none⟩ u0).setCell ⟨g,1,none⟩ u1).setCell ⟨g,2,none⟩ u2).setCell ⟨g,3,none⟩ u3).setCell ⟨g,4,none⟩ u4).setCell ⟨g,5,none⟩ u5):=
 (((((h.setCell (p:=⟨g,0,none⟩) hg _).setCell (p:=⟨g,1,none⟩) hg _).setCell (p:=⟨g,2,none⟩) hg _).setCell (p:=⟨g,3,none⟩) hg _).setCell (p:=⟨g,4,none⟩) hg _).setCell (p:=⟨g,5,none⟩) hg _
theorem Ea{w:World}{B:Nat}{v:Value}{n:Nat}{xs:List Value}(h:Sl w B v n xs){p:Addr}(hp:B≤p.block)(u:Value):Sl (w.setCell p u) B v n xs:=
 h.keep fun q hq=>World.cell?_of_block (Below.heap_setCell w p u q.block (by omega))
theorem Tf{w1:World}{B g:Nat}{v:Value}{n:Nat}{xs:List Value}(h:Sl w1 B v n xs)(hg:B≤g)(u0 u1 u2 u3 u4 u5:Value):
 Sl ((((((w1.setCell ⟨g,0,none⟩ u0).setCell ⟨g,1,none⟩ u1).setCell ⟨g,2,none⟩ u2).setCell ⟨g,3,none⟩ u3).setCell ⟨g,4,none⟩ u4).setCell ⟨g,5,none⟩ u5) B v n xs:=
 Ea (p:=⟨g,5,none⟩) (Ea (p:=⟨g,4,none⟩) (Ea (p:=⟨g,3,none⟩) (Ea (p:=⟨g,2,none⟩) (Ea (p:=⟨g,1,none⟩) (Ea (p:=⟨g,0,none⟩) h hg _) hg _) hg _) hg _) hg _) hg _
theorem Jf(B:Nat)(v:Value)(l:List Hg.Row)(id:Nat)(w:World)(hB:B≤w.heap.size)(hx:Aw w B v l)(hl:l.length≤1000000000):
 Calls Tryz.prog 61 #[v,.int .u64 (id:Int)] w (F9 B (Hg.AL l id) w):=by
 have hX:=zz hx;obtain⟨a,c,rfl⟩:=hx.form;clear hx;cases hk:Hg.atI l id with
 |none=>
   have HA:=zz (De hk);rw[Hg.Cw l id hk];clear hk;go_enter Tryz.func61,Tryz.ntmps61
   go_wp2_with (go_at_call 111;refine(DV B _ l id _ (by simp;omega) (hX.out.below ((AP).alloc AA _) hB) hl).mono ?_;rintro e w1 ⟨rfl,hb⟩;rw[HA.out];obtain⟨⟨k0,k1,k2,k3,k4,k5⟩,⟨z0,z1,z2,z3,z4,z5⟩,hsz,hbb⟩:=box6 hb;clear hb)
   exact bodyPost_ret (v:=ndV Hg.Node.zero none 0) (by simp[results,Tryz.results61,go_sem,k0,k1,k2,k3,k4,k5,Hg.Node.zero]) rfl (F9.mk rfl (Sl.nil _ _) (CO hbb AA _ _ _ _ _ _))
 |some k=>
   have HA:=zz (Dc hk);have hr:=D6 hk;rw[Hg.DR l id k hk];have hkl:k < l.length:=(Af.1 hr).1;have HR:=zz hr;clear hk hr;go_enter Tryz.func61,Tryz.ntmps61
   go_wp2_with (go_at_call 111;refine(DV B _ l id _ (by simp;omega) (hX.out.below ((AP).alloc AA _) hB) hl).mono ?_;rintro e w1 ⟨rfl,hb⟩;rw[HA.out];obtain⟨⟨k0,k1,k2,k3,k4,k5⟩,⟨z0,z1,z2,z3,z4,z5⟩,hsz,hbb⟩:=box6 hb;clear hb;obtain⟨b,o,ka,kc,rfl,hbB,hkid,d0,d1,d2,d3,d4,d5,d6⟩:=(hX.out.below hbb hB).at_ HR.out;have HK:=zz hkid;clear hkid)
   exact bodyPost_ret (v:=ndV (Hg.rowAt l k).node ka kc) (by simp[results,Tryz.results61,go_sem,k0,k1,k2,k3,k4,k5]) rfl (F9.mk rfl (Tf HK.out hB _ _ _ _ _ _) (CO hbb AA _ _ _ _ _ _))
theorem EH(B:Nat)(v:Value)(l:List Hg.Row)(id:Nat)(w:World)(hB:B≤w.heap.size)(hx:Aw w B v l)(hl:l.length≤1000000000):
 Calls Tryz.prog 67 #[v,.int .u64 (id:Int)] w (F9 B (Hg.AL l id) w):=by
 have hX:=zz hx;obtain⟨a,c,rfl⟩:=hx.form;clear hx;cases hk:Hg.atI l id with
 |none=>
   have HA:=zz (De hk);rw[Hg.Cw l id hk];clear hk;go_enter Tryz.func67,Tryz.ntmps67
   go_wp2_with (go_at_call 111;refine(DV B _ l id _ (by simp;omega) (hX.out.below ((AP).alloc AA _) hB) hl).mono ?_;rintro e w1 ⟨rfl,hb⟩;rw[HA.out];obtain⟨⟨k0,k1,k2,k3,k4,k5⟩,⟨z0,z1,z2,z3,z4,z5⟩,hsz,hbb⟩:=box6 hb;clear hb)
   exact bodyPost_ret (v:=ndV Hg.Node.zero none 0) (by simp[results,Tryz.results67,go_sem,k0,k1,k2,k3,k4,k5,Hg.Node.zero]) rfl (F9.mk rfl (Sl.nil _ _) (CO hbb AA _ _ _ _ _ _))
 |some k=>
   have HA:=zz (Dc hk);have hr:=D6 hk;rw[Hg.DR l id k hk];have hkl:k < l.length:=(Af.1 hr).1;have HR:=zz hr;clear hk hr;go_enter Tryz.func67,Tryz.ntmps67
   go_wp2_with (go_at_call 111;refine(DV B _ l id _ (by simp;omega) (hX.out.below ((AP).alloc AA _) hB) hl).mono ?_;rintro e w1 ⟨rfl,hb⟩;rw[HA.out];obtain⟨⟨k0,k1,k2,k3,k4,k5⟩,⟨z0,z1,z2,z3,z4,z5⟩,hsz,hbb⟩:=box6 hb;clear hb;obtain⟨b,o,ka,kc,rfl,hbB,hkid,d0,d1,d2,d3,d4,d5,d6⟩:=(hX.out.below hbb hB).at_ HR.out;have HK:=zz hkid;clear hkid)
   exact bodyPost_ret (v:=ndV (Hg.rowAt l k).node ka kc) (by simp[results,Tryz.results67,go_sem,k0,k1,k2,k3,k4,k5]) rfl (F9.mk rfl (Tf HK.out hB _ _ _ _ _ _) (CO hbb AA _ _ _ _ _ _))
theorem Ub(s:List UInt8)(m:Nat)(hs:s.length≤1000000000000000)(hm:m≤1000000000)(w:World):
 Calls Tryz.prog 14 #[.string ⟨s.toArray⟩,.int .i64 m] w fun e w'=>e= .returned (strV (s.take m))∧w=w':=by
 go_enter Tryz.func14,Tryz.ntmps14;by_cases h:m < s.length
 ·have e1:(min (s.length:Int) (m:Int)).toNat=m:=by omega
  go_wp2;go_ret;refine⟨?_,rfl⟩
  first
   |rfl
   |simp[strV,e1]
 ·have e1:(min (s.length:Int) (m:Int)).toNat=s.length:=by omega
  have e2:List.take m s=s:=List.take_of_length_le (by omega);go_wp2;go_ret;refine⟨?_,rfl⟩
  simp[strV,e1,e2]
theorem KR(B:Nat)(v:Value)(l:List Nat)(x:Nat)(w:World)(hx:Sl w B v l.length (l.map idV))(hl:l.length≤1000000000):
 Calls Tryz.prog 118 #[v,.int .u64 x] w fun e w'=>e= .returned (.bool (Hg.isIn l x))∧w=w':=by
 obtain⟨a,c,rfl⟩:=hx.form;have HX:=zz hx;clear hx;go_enter Tryz.func118,Tryz.ntmps118;go_wp2
 go_loop [9] (fun i=>∃k:Nat,k≤l.length∧i= .int .i64 k∧∀j,j < k→(hj:j < l.length)→l[j]≠x) (fun i=>l.length-(intOf i).toNat)
 case atStart=>exact⟨0,by omega,rfl,fun j hj=>by omega⟩
 case round=>
  obtain⟨k,hk,rfl,hno⟩:=hrel;have HN:=zz hno;clear hno;by_cases hlt:k < l.length
  ·obtain⟨b,o,rfl,_,hc⟩:=HX.out.idAt hlt
   by_cases hid:l[k]=x
   ·have hfin:=zz (show Hg.isIn l x=true by unfold Hg.isIn;rw[List.contains_iff_mem];rw[←hid];exact List.getElem_mem hlt)
    have hq:((x:Int)==(l[k]:Int))=true:=by simp[hid]
    clear hid;go_wp2;go_ret;exact⟨AQ hfin.out.symm,rfl⟩
   ·have hq:((x:Int)==(l[k]:Int))=false:=by simp;omega
    have HI:=zz hid;clear hid;go_wp2
    go_round
    case rel=>exact⟨k+1,by omega,by go_num,fun j hj hj2=>by
     by_cases e:j=k
     ·subst e;exact HI.out
     ·exact HN.out j (by omega) hj2⟩
    case measure=>simp[intOf];omega
  ·obtain rfl:k=l.length:=by omega
   have hfin:=zz (show Hg.isIn l x=false by
    unfold Hg.isIn;rw[List.contains_eq_mem];simp only[decide_eq_false_iff_not];intro hx;obtain⟨j,hj,he⟩:=List.mem_iff_getElem.1 hx;exact HN.out j hj hj he)
   go_wp2;go_ret;exact⟨AQ hfin.out.symm,rfl⟩
theorem Vp(s:List UInt8)(hd:s.all (fun c=>Hg.cls c==2)=true):Hg.valOf s < 10 ^ s.length:=by
 unfold Hg.valOf;have key:∀(s:List UInt8) (n m:Nat),s.all (fun c=>Hg.cls c==2)=true→n < 10 ^ m→s.foldl (fun n c=>10*n+(c.toNat-48)) n < 10 ^ (m+s.length):=by
  intro s
  induction s with
  |nil=>intro n m _ h;simpa using h
  |cons c r ih=>
    intro n m hd h;simp only[List.all_cons,Bool.and_eq_true,beq_iff_eq] at hd;simp only[List.foldl_cons,List.length_cons];have hc:c.toNat-48≤9:=by
     have:=hd.1;unfold Hg.cls at this
     split at this
     ·omega
     ·split at this
      ·omega
      ·split at this <;>omega
    have:=ih (10*n+(c.toNat-48)) (m+1) hd.2 (by rw[Nat.pow_succ];omega);rw[show m+(r.length+1)=m+1+r.length from by omega];exact this
 have:=key s 0 0 hd (by simp);simpa using this
theorem IQ(c:UInt8)(r:List UInt8):Hg.CK (c::r)=if 19 < (c::r).length∨(c.toNat=48∧r≠[]) then -1
 else if (c::r).all (fun c=>Hg.cls c==2) then(if 9223372036854775807 < Hg.valOf (c::r) then -1 else(Hg.valOf (c::r):Int)) else -1:=rfl
theorem number_eq(s:List UInt8)(h0:0 < s.length)(h19:s.length≤19)(hz:¬(s[0].toNat=48∧1 < s.length)):Hg.CK s=
 if s.all (fun c=>Hg.cls c==2) then(if 9223372036854775807 < Hg.valOf s then -1 else(Hg.valOf s:Int)) else -1:=by
 cases s with
 |nil=>simp at h0
 |cons c r=>
   have hn:¬(19 < (c::r).length∨(c.toNat=48∧r≠[])):=by
    rintro(h|⟨h1,h2⟩)
    ·omega
    ·refine hz ⟨h1, ?_⟩
     cases r with
     |nil=>exact absurd rfl h2
     |cons=>simp
   rw[IQ,if_neg hn]
theorem Qc(s:List UInt8)(h:19 < s.length):Hg.CK s= -1:=by
 cases s with
 |nil=>rfl
 |cons c r=>
   have hn:(19 < (c::r).length∨(c.toNat=48∧r≠[])):= .inl h;rw[IQ,if_pos hn]
theorem Qb(s:List UInt8)(h0:0 < s.length)(hz:s[0].toNat=48)(h1:1 < s.length):Hg.CK s= -1:=by
 cases s with
 |nil=>rfl
 |cons c r=>
   have hn:(19 < (c::r).length∨(c.toNat=48∧r≠[])):= .inr ⟨by simpa using hz,by
    cases r with
    |nil=>simp at h1
    |cons=>simp⟩
   rw[IQ,if_pos hn]
theorem Vo(s:List UInt8)(k:Nat)(hk:k < s.length):Hg.valOf (s.take (k+1))=10*Hg.valOf (s.take k)+(s[k].toNat-48):=by
 unfold Hg.valOf;rw[List.take_succ_eq_append_getElem hk,List.foldl_append];rfl
theorem cls2{c:UInt8}:(Hg.cls c==2)=true↔48≤c.toNat∧c.toNat≤57:=by
 rw[beq_iff_eq];unfold Hg.cls;constructor
 ·intro h
  split at h
  ·omega
  ·split at h
   ·assumption
   ·split at h <;>omega
 ·intro h
  rw[if_neg (by omega),if_pos h]
theorem RV{s:List UInt8}{k:Nat}(h:∀j,j < k→(hj:j < s.length)→(Hg.cls s[j]==2)=true):(s.take k).all (fun c=>Hg.cls c==2)=true:=by
 rw[List.all_eq_true];intro x hx;obtain⟨j,hj,he⟩:=List.mem_iff_getElem.1 hx;simp only[List.length_take] at hj;rw[List.getElem_take] at he;rw[←he];exact h j (by omega) (by omega)
theorem XQ{n:Nat}(h1:48≤n)(h2:n≤57):IntKind.u8.wrap ((n:Int)-48)=((n-48:Nat):Int):=by
 rw[IntWalk.u8_in _ (by omega)];omega
theorem Qd(s:List UInt8)(h0:0 < s.length)(h19:s.length≤19)(hz:¬(s[0].toNat=48∧1 < s.length)):
 (∀k,(hk:k < s.length)→(Hg.cls s[k]==2)=false→Hg.CK s= -1)∧
 ((∀k,(hk:k < s.length)→(Hg.cls s[k]==2)=true)→9223372036854775807 < Hg.valOf s→Hg.CK s= -1)∧
 ((∀k,(hk:k < s.length)→(Hg.cls s[k]==2)=true)→¬9223372036854775807 < Hg.valOf s→Hg.CK s=(Hg.valOf s:Int)):=by
 rw[number_eq s h0 h19 hz];refine⟨fun k hk h=> ?_,fun h h'=> ?_,fun h h'=> ?_⟩
 ·rw[MU s (fun c=>Hg.cls c==2) k hk h];rfl
 ·rw[Im s (fun c=>Hg.cls c==2) h];simp[h']
 ·rw[Im s (fun c=>Hg.cls c==2) h];simp[h']
theorem IR(s:List UInt8)(h0:0 < s.length)(w:World)(hs:s.length≤1000000000):
 Calls Tryz.prog 87 #[.string ⟨s.toArray⟩] w fun e w'=>e= .returned (.int .i64 (Hg.CK s))∧w=w':=by
 have hd0:decide ((s.length:Int) < 1)=false:=by simp;omega
 by_cases h19:s.length≤19
 ·have hd1:decide (19 < (s.length:Int))=false:=by simp;omega
  by_cases hzz:s[0].toNat=48∧1 < s.length
  ·obtain⟨hz,h1⟩:=hzz
   have hq:((s[0].toNat:Int)==48)=true:=by simp[hz]
   have hd2:decide (1 < (s.length:Int))=true:=by simp;omega
   have hfin:=zz (Qb s h0 hz h1);clear hz;go_enter Tryz.func87,Tryz.ntmps87;go_wp2;go_ret;exact⟨DJ hfin.out.symm,rfl⟩
  ·have HC:=zz (Qd s h0 h19 hzz)
   have hcase:((s[0].toNat:Int)==48)=false∨(((s[0].toNat:Int)==48)=true∧decide (1 < (s.length:Int))=false):=by
    by_cases e:s[0].toNat=48
    ·right;refine⟨by simp[e], ?_⟩;simp;omega
    ·left;simp;omega
   clear hzz;rcases hcase with hq|⟨hq,hd2⟩
   all_goals
    go_enter Tryz.func87,Tryz.ntmps87;go_wp2
    go_loop [3,4] (fun n i=>∃k:Nat,k≤s.length∧i= .int .i64 k∧n= .int .u64 (Hg.valOf (s.take k))∧∀j,j < k→(hj:j < s.length)→(Hg.cls s[j]==2)=true) (fun _ i=>s.length-(intOf i).toNat)
    case atStart=>exact⟨0,by omega,rfl,rfl,fun j hj=>by omega⟩
    case round=>
     obtain⟨k,hk,rfl,rfl,hno⟩:=hrel;have HN:=zz hno;have hv:=Vp (s.take k) (RV hno);have hv1:10 ^ (s.take k).length≤10 ^ 19:=Nat.pow_le_pow_right (by omega) (by rw[List.length_take];omega);have hv19:Hg.valOf (s.take k) < 10000000000000000000:=Ae hv hv1;clear hno hv hv1 hq;by_cases hlt:k < s.length
     ·have hv2:Hg.valOf (s.take k) < 1000000000000000000:=by
       have hv:=Vp (s.take k) (RV HN.out);refine Ae hv (AO (Nat.pow_le_pow_right (by omega) (?_:_≤18)) (by decide));rw[List.length_take];omega
      have hvs:=zz (Vo s k hlt);clear hv19;by_cases hcl:(Hg.cls s[k]==2)=true
      ·have hq1:((Hg.cls s[k]:Int) !=2)=false:=by
        rw[beq_iff_eq] at hcl;simp[hcl]
       obtain⟨hd1,hd2⟩:=cls2.1 hcl;have hsub:=XQ hd1 hd2;have HCL:=zz hcl;clear hcl
       go_wp2_with (go_at_call 84;refine(BJ _ _).mono ?_;rintro e w' ⟨rfl,rfl⟩)
       go_round
       case rel=>exact⟨k+1,by omega,by go_num,by rw[hvs.out];go_num,fun j hj hj2=>by
        by_cases e:j=k
        ·subst e;exact HCL.out
        ·exact HN.out j (by omega) hj2⟩
       case measure=>simp[intOf];omega
      ·have hq1:((Hg.cls s[k]:Int) !=2)=true:=by
        rw[beq_iff_eq] at hcl;simp;omega
       have hfin:=zz (HC.out.1 k hlt (by simpa using hcl));clear hcl
       go_wp2_with (go_at_call 84;refine(BJ _ _).mono ?_;rintro e w' ⟨rfl,rfl⟩)
       go_ret;exact⟨DJ hfin.out.symm,rfl⟩
     ·obtain rfl:k=s.length:=by omega
      have htk:s.take s.length=s:=List.take_length;by_cases hbig:9223372036854775807 < Hg.valOf s
      ·have hfin:=zz (HC.out.2.1 (fun j hj=>HN.out j hj hj) hbig)
       rw[htk] at hv19⊢;clear htk;go_wp2;go_ret;exact⟨DJ hfin.out.symm,rfl⟩
      ·have hfin:=zz (HC.out.2.2 (fun j hj=>HN.out j hj hj) hbig)
       rw[htk] at hv19⊢;clear htk;go_wp2;go_ret;exact⟨DJ (by rw[hfin.out]),rfl⟩
 ·have hd1:decide (19 < (s.length:Int))=true:=by simp;omega
  have hfin:=zz (Qc s (by omega));go_enter Tryz.func87,Tryz.ntmps87;go_wp2;go_ret;exact⟨DJ hfin.out.symm,rfl⟩
theorem GD:∀(l:List Hg.Row) (id k:Nat),(∀(j:Nat) (r:Hg.Row),j < k→l[j]? =some r→r.node.kids.findIdx? (· ==id)=none)→Hg.parentOf l id=Hg.parentOf (l.drop k) id
 |_,_,0,_=>rfl
 |[],id,k+1,_=>by simp
 |r::rs,id,k+1,h=>by
   rw[Hg.parentOf,h 0 r (by omega) rfl];simp only[List.drop_succ_cons];exact GD rs id k fun j r' hj hr=>h (j+1) r' (by omega) (by simpa using hr)
theorem PN(l:List Hg.Row)(id k m:Nat)(r:Hg.Row)(hr:l[k]? =some r)(hno:∀(j:Nat) (r:Hg.Row),j < k→l[j]? =some r→r.node.kids.findIdx? (· ==id)=none)
 (h:r.node.kids.findIdx? (· ==id)=some m):Hg.parentOf l id=(r.id,m):=by
 rw[GD l id k hno];obtain⟨hk,he⟩:=Af.1 hr;rw[Au hk,he,Hg.parentOf,h]
theorem Nv(l:List Hg.Row)(id:Nat)(hno:∀(j:Nat) (r:Hg.Row),j < l.length→l[j]? =some r→r.node.kids.findIdx? (· ==id)=none):Hg.parentOf l id=(0,0):=by
 rw[GD l id l.length hno];simp[Hg.parentOf]
theorem Q8(l:List Nat)(id k:Nat)(hk:k < l.length)(h:l[k]=id)(hno:∀j,(hj:j < k)→l[j]'(by omega)≠id):l.findIdx? (· ==id)=some k:=by
 rw[List.findIdx?_eq_some_iff_getElem];exact⟨hk,by simpa using h,fun j hj=>by simpa using hno j hj⟩
theorem Pd(l:List Nat)(id:Nat)(hno:∀j,(hj:j < l.length)→l[j]≠id):l.findIdx? (· ==id)=none:=by
 rw[List.findIdx?_eq_none_iff];intro x hx;obtain⟨j,hj,he⟩:=List.mem_iff_getElem.1 hx;have:=hno j hj;rw[he] at this;simpa using this
theorem R3(B:Nat)(v:Value)(l:List Hg.Row)(id:Nat)(w:World)(hB:B≤w.heap.size)(hx:Aw w B v l)(hl:l.length≤1000000000)
 (hkl:∀(j:Nat) (r:Hg.Row),l[j]? =some r→r.node.kids.length≤1000000000):
 Calls Tryz.prog 62 #[v,.int .u64 id] w fun e w'=>e= .returned (.tuple #[.int .u64 (Hg.parentOf l id).1,.int .i64 (Hg.parentOf l id).2])∧Below w.heap.size w w':=by
 have hX:=zz hx;have hKL:=zz hkl;obtain⟨a,c,rfl,hc⟩:=hx.open_;clear hx hc hkl;go_enter Tryz.func62,Tryz.ntmps62;go_wp2
 go_loopw [12] (fun i wr=>∃k:Nat,k≤l.length∧i= .int .i64 k∧Below w.heap.size w wr∧∀(j:Nat) (r:Hg.Row),j < k→l[j]? =some r→r.node.kids.findIdx? (· ==id)=none) (fun i wr=>l.length-(intOf i).toNat)
 case atStart=>exact⟨0,by omega,rfl,AP,fun j r hj=>by omega⟩
 case round=>
  obtain⟨k,hk,rfl,hb,hno⟩:=hrel;have HN:=zz hno;clear hno;by_cases hlt:k < l.length
  ·obtain⟨a',c',he,hc⟩:=(hX.out.below hb hB).open_
   obtain⟨b,o,ha,hbB,hcell⟩:=hc (by omega);obtain⟨rfl,rfl⟩:a'=a∧c'=c:=by injection he with h1 h2 h3;exact⟨h1.symm,h3.symm⟩
   clear he hc;subst ha;have hrk:l[k]? =some l[k]:=AX hlt;obtain⟨ka,kc,hkid,h0,h1,h2,h3,h4,h5,h6⟩:=hcell k l[k] hrk;have hkl:=hKL.out k l[k] hrk;have HRK:=zz hrk;have HKID:=zz hkid;clear hcell hrk hkid;generalize l[k]=r at*;go_wp2;have hb2:=hb.alloc hb.size (.cells #[.int .u64 (r.id:Int),.int .u8 (r.node.kind:Int),.string ⟨r.node.name.toArray⟩,.int .i64 r.node.num,.int .u8 (r.node.type:Int),.int .u64 (r.node.ref:Int),.slice ka r.node.kids.length kc] 46);have hs2:=HKID.out.alloc (AO hB hb.size) (.cells #[.int .u64 (r.id:Int),.int .u8 (r.node.kind:Int),.string ⟨r.node.name.toArray⟩,.int .i64 r.node.num,.int .u8 (r.node.type:Int),.int .u64 (r.node.ref:Int),.slice ka r.node.kids.length kc] 46);have hf0:(wr.alloc (.cells #[.int .u64 (r.id:Int),.int .u8 (r.node.kind:Int),.string ⟨r.node.name.toArray⟩,.int .i64 r.node.num,.int .u8 (r.node.type:Int),.int .u64 (r.node.ref:Int),.slice ka r.node.kids.length kc] 46)).cell? ⟨wr.heap.size,0,none⟩=some (.int .u64 (r.id:Int)):=by simp[go_sem]
   generalize World.alloc wr _=W1 at hb2 hs2 hf0⊢;have HS2:=zz hs2;clear hs2 h0 h1 h2 h3 h4 h5 h6
   go_loop [20] (fun i=>∃m:Nat,m≤r.node.kids.length∧i= .int .i64 m∧∀j,j < m→(hj:j < r.node.kids.length)→r.node.kids[j]≠id) (fun i=>r.node.kids.length-(intOf i).toNat)
   case atStart=>exact⟨0,by omega,rfl,fun j hj=>by omega⟩
   case round=>
    obtain⟨m,hm,rfl,hnm⟩:=hrel;have HM:=zz hnm;clear hnm;by_cases hlm:m < r.node.kids.length
    ·obtain⟨a1,c1,he1,hc1⟩:=HS2.out.ids
     obtain⟨b1,o1,ha1,_,hcell1⟩:=hc1 (by omega);obtain⟨rfl,rfl⟩:a1=ka∧c1=kc:=by injection he1 with h1 h2 h3;exact⟨h1.symm,h3.symm⟩
     clear he1 hc1;subst ha1;have hcm:=hcell1 m hlm;clear hcell1;by_cases hid:r.node.kids[m]=id
     ·have hq:((r.node.kids[m]:Int)==(id:Int))=true:=by simp[hid]
      have HI:=zz hid;clear hid;have hp:=zz (PN l id k m r HRK.out HN.out (Q8 _ id m hlm HI.out fun j hj=>HM.out j hj (by omega)));go_wp2;go_ret2;exact⟨by rw[hp.out];rfl,hb2⟩
     ·have hq:((r.node.kids[m]:Int)==(id:Int))=false:=by simp;omega
      have HI:=zz hid;clear hid;go_wp2
      go_round
      case rel=>exact⟨m+1,by omega,by go_num,fun j hj hj2=>by
       by_cases e:j=m
       ·subst e;exact HI.out
       ·exact HM.out j (by omega) hj2⟩
      case measure=>simp[intOf];omega
    ·obtain rfl:m=r.node.kids.length:=by omega
     go_wp2;go_roundw
     case rel=>exact⟨k+1,by omega,by go_num,hb2,fun j r' hj hr=>by
      by_cases e:j=k
      ·subst e;rw[HRK.out] at hr;injection hr with hr;rw[←hr];exact Pd _ id fun j hj=>HM.out j hj hj
      ·exact HN.out j r' (by omega) hr⟩
     case measure=>simp[intOf];omega
  ·obtain rfl:k=l.length:=by omega
   have hp:=zz (Nv l id HN.out);go_wp2;go_ret2;exact⟨by rw[hp.out];rfl,hb⟩
end Go.Proofs.YtijhlanclfajiaaGreatDoor
