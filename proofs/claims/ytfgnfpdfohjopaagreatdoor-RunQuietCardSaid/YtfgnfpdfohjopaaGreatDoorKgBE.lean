/-
  A part of the proof.
-/
import Derived.Test.YtfgnfpdfohjopaaGreatDoorKgBD
set_option linter.all false
set_option maxHeartbeats 0
set_option maxRecDepth 100000
namespace Go.Proofs.YtfgnfpdfohjopaaGreatDoor.Rn
open Go.RowKit
open Hg (Fz FV FO FT IT KB Ak EK isB)
section
variable {C:QC} {X:Nat→Prop} {ab mb nb fb n:Nat} {w0 w w':World} {s s':Fz} {tv tv':Value} {V:Nat→Int}
theorem Mach.read(h:Mach C X ab mb nb w0 w s tv):w.cell? ⟨mb,0,none⟩=some (.pointer (some ⟨ab,0,none⟩))∧w.cell? ⟨mb,1,none⟩=some (.map (some nb))∧w.cell? ⟨mb,3,none⟩=some (.int .i64 (C.fuel:Int))∧
 w.cell? ⟨mb,4,none⟩=some (.int .u8 (s.e:Int))∧w.cell? ⟨mb,6,none⟩=some tv∧w.cell? ⟨mb,7,none⟩=some (.int .i64 (s.used:Int))∧w.cell? ⟨mb,2,none⟩=some C.iv∧w.cell? ⟨mb,8,none⟩=some (.int .i64 (s.rd:Int))∧∀i,w.frozen? ⟨mb,i,none⟩=false:=by
 have z:=fun i=>AJ w mb i _ _ (0,0) h.cell;have z0:=z 0;have z1:=z 1;have z3:=z 3;have z4:=z 4;have z6:=z 6;have z7:=z 7;have z2:=z 2;have z8:=z 8;simp at z0 z1 z2 z3 z4 z6 z7 z8;exact⟨z0,z1,z3,z4,z6,z7,z2,z8,fun i=>by simp[World.frozen?,h.cell]⟩
theorem Mach.setEnd(h:Mach C X ab mb nb w0 w s tv)(e:Nat):Mach C X ab mb nb w0 (w.setCell ⟨mb,4,none⟩ (.int .u8 (e:Int))) {s with e:=e} tv:=
 h.turn ((Fr.refl (fun q=>q=mb) w).set (.inl rfl) _) (heap_setCell_same (i:=4) h.cell _) rfl AA h.us
theorem Mach.setUsed(h:Mach C X ab mb nb w0 w s tv)(u:Nat)(hu:u≤50000)(hsu:s.used≤u):Mach C X ab mb nb w0 (w.setCell ⟨mb,7,none⟩ (.int .i64 (u:Int))) {s with used:=u} tv:=
 h.turn ((Fr.refl (fun q=>q=mb) w).set (.inl rfl) _) (heap_setCell_same (i:=7) h.cell _) rfl hsu hu
theorem Mach.setRd(h:Mach C X ab mb nb w0 w s tv)(r:Nat):Mach C X ab mb nb w0 (w.setCell ⟨mb,8,none⟩ (.int .i64 (r:Int))) {s with rd:=r} tv:=
 h.turn ((Fr.refl (fun q=>q=mb) w).set (.inl rfl) _) (heap_setCell_same (i:=8) h.cell _) rfl AA h.us
theorem Mach.drew(h:Mach C X ab mb nb w0 w s tv):Mach C X ab mb nb w0 w.drew s tv:=h.below (AL).drew
def KW(C:QC)(X:Nat→Prop)(ab mb nb:Nat)(w0:World)(s:Fz)(tv:Value)(w:World)(e:Ending)(w':World):Prop:=
 e= .returned (.bool (C.burn s).1)∧Mach C X ab mb nb w0 w' (C.burn s).2 tv∧Fr (fun q=>q=mb) w w'
theorem NA(h:Mach C X ab mb nb w0 w s tv):Calls Tryz.prog 51 #[.pointer (some ⟨mb,0,none⟩)] w (KW C X ab mb nb w0 s tv w):=by
 have h:=h.drew;obtain⟨-,-,c3,c4,-,c7,-,-,hf⟩:=h.read;have f4:=hf 4;have f7:=hf 7;have hus:=h.us;have hlt:=h.lt;have hsame:=fun(u:Value) i=>((Fr.refl (fun q=>q=mb) w).drew).set (p:=⟨mb,i,none⟩) (.inl rfl) u;have hHeld:(fun w':World=>w'.cell? ⟨mb,4,none⟩=some (.int .u8 (s.e:Int))∧w'.cell? ⟨mb,3,none⟩=some (.int .i64 (C.fuel:Int))∧w'.cell? ⟨mb,7,none⟩=some (.int .i64 (s.used:Int))) w.drew:=⟨c4,c3,c7⟩;unfold KW QC.burn;by_cases he:s.e=0
 ·rw[if_pos he]
  have q1:((s.e:Int)==0)=true:=by simp[he]
  by_cases hu:C.fuel≤s.used
  ·rw[if_pos hu]
   have q2:decide ((C.fuel:Int)≤(s.used:Int))=true:=by simp;omega
   have q3:decide (C.fuel≤s.used)=true:=by simpa using hu
   have HM:=zz (h.setEnd 2);have HF:=zz (hsame (.int .u8 2) 4);clear h hf hu hsame;go_enter Tryz.func51,Tryz.ntmps51;go_wp2;refine Ap (fun w':World=>w'.cell? ⟨mb,4,none⟩=some (.int .u8 (s.e:Int))∧w'.cell? ⟨mb,3,none⟩=some (.int .i64 (C.fuel:Int))∧w'.cell? ⟨mb,7,none⟩=some (.int .i64 (s.used:Int))) 17 (by kernel_rfl) ?_;refine tz 0 ?_;refine tz 1 ?_;refine tz 2 ?_;refine tz 3 ?_;refine tz 4 ?_;refine tz 5 ?_;refine tz 6 ?_;refine tz 7 ?_;refine tz 8 ?_;refine tz 9 ?_;refine tz 10 ?_;refine tz 11 ?_;refine tz 12 ?_;refine tz 13 ?_;refine tz 14 ?_;refine tz 15 ?_;refine tz 16 ?_;refine Ag (by kernel_rfl) ?_;simp only[List.drop_succ_cons,List.drop_zero];generalize w.drew=wd at c3 c4 c7 f4 f7 hHeld HM HF⊢;go_upto_region 3 with fail;clear c3 c4 c7 hHeld f4 f7;generalize World.setCell wd _ _=w4 at HM HF⊢;have c4:=HM.out.read.2.2.2.1;go_wp2;go_ret;exact⟨rfl,HM.out,HF.out⟩
  ·rw[if_neg hu]
   have q2:decide ((C.fuel:Int)≤(s.used:Int))=false:=by simp;omega
   have q3:decide (C.fuel≤s.used)=false:=by simpa using hu
   have q4:((s.e:Int) !=0)=false:=by simp[he]
   have hfu:=h.fu;have HM:=zz (h.setUsed (s.used+1) (by omega) (by omega));have HF:=zz (hsame (.int .i64 ((s.used+1:Nat):Int)) 7);have hw1:wrap64 ((s.used:Int)+1)=((s.used+1:Nat):Int):=by unfold wrap64;omega
   clear h hf hu hsame;go_enter Tryz.func51,Tryz.ntmps51;go_wp2;refine Ap (fun w':World=>w'.cell? ⟨mb,4,none⟩=some (.int .u8 (s.e:Int))∧w'.cell? ⟨mb,3,none⟩=some (.int .i64 (C.fuel:Int))∧w'.cell? ⟨mb,7,none⟩=some (.int .i64 (s.used:Int))) 17 (by kernel_rfl) ?_;refine tz 0 ?_;refine tz 1 ?_;refine tz 2 ?_;refine tz 3 ?_;refine tz 4 ?_;refine tz 5 ?_;refine tz 6 ?_;refine tz 7 ?_;refine tz 8 ?_;refine tz 9 ?_;refine tz 10 ?_;refine tz 11 ?_;refine tz 12 ?_;refine tz 13 ?_;refine tz 14 ?_;refine tz 15 ?_;refine tz 16 ?_;refine Ag (by kernel_rfl) ?_;simp only[List.drop_succ_cons,List.drop_zero];go_wp2;go_ret;exact⟨rfl,HM.out,HF.out⟩
 ·rw[if_neg he]
  have q1:((s.e:Int)==0)=false:=by simp;omega
  have q2:((s.e:Int) !=0)=true:=by simp;omega
  have HM:=zz h;have HF:=zz ((Fr.refl (fun q=>q=mb) w).drew);clear h hf he hsame;go_enter Tryz.func51,Tryz.ntmps51;go_wp2;refine Ap (fun w':World=>w'.cell? ⟨mb,4,none⟩=some (.int .u8 (s.e:Int))∧w'.cell? ⟨mb,3,none⟩=some (.int .i64 (C.fuel:Int))∧w'.cell? ⟨mb,7,none⟩=some (.int .i64 (s.used:Int))) 17 (by kernel_rfl) ?_;refine tz 0 ?_;refine tz 1 ?_;refine tz 2 ?_;refine tz 3 ?_;refine tz 4 ?_;refine tz 5 ?_;refine tz 6 ?_;refine Ac (i:=7) rfl (by kernel_rfl) (fun _ _ _ h=>h) (by assumption) (Or.inr ⟨by rfl,rfl⟩) ?_
  try simp only[Act.put,sA,sB,sC,sD,sE,sF]
  refine Ac (i:=8) rfl (by kernel_rfl) (fun _ _ _ h=>h) (by assumption) (Or.inr ⟨by rfl,rfl⟩) ?_
  try simp only[Act.put,sA,sB,sC,sD,sE,sF]
  refine Ac (i:=9) rfl (by kernel_rfl) (fun _ _ _ h=>h) (by assumption) (Or.inr ⟨by rfl,rfl⟩) ?_
  try simp only[Act.put,sA,sB,sC,sD,sE,sF]
  refine Ac (i:=10) rfl (by kernel_rfl) (fun _ _ _ h=>h) (by assumption) (Or.inr ⟨by rfl,rfl⟩) ?_
  try simp only[Act.put,sA,sB,sC,sD,sE,sF]
  refine Ac (i:=11) rfl (by kernel_rfl) (fun _ _ _ h=>h) (by assumption) (Or.inr ⟨by rfl,rfl⟩) ?_
  try simp only[Act.put,sA,sB,sC,sD,sE,sF]
  refine Ac (i:=12) rfl (by kernel_rfl) (fun _ _ _ h=>h) (by assumption) (Or.inr ⟨by rfl,rfl⟩) ?_
  try simp only[Act.put,sA,sB,sC,sD,sE,sF]
  refine Ac (i:=13) rfl (by kernel_rfl) (fun _ _ _ h=>h) (by assumption) (Or.inr ⟨by rfl,rfl⟩) ?_
  try simp only[Act.put,sA,sB,sC,sD,sE,sF]
  refine Ac (i:=14) rfl (by kernel_rfl) (fun _ _ _ h=>h) (by assumption) (Or.inr ⟨by rfl,rfl⟩) ?_
  try simp only[Act.put,sA,sB,sC,sD,sE,sF]
  refine Ac (i:=15) rfl (by kernel_rfl) (fun _ _ _ h=>h) (by assumption) (Or.inr ⟨by rfl,rfl⟩) ?_
  try simp only[Act.put,sA,sB,sC,sD,sE,sF]
  refine Ac (i:=16) rfl (by kernel_rfl) (fun _ _ _ h=>h) (by assumption) (Or.inr ⟨by rfl,rfl⟩) ?_
  try simp only[Act.put,sA,sB,sC,sD,sE,sF]
  refine Ag (by kernel_rfl) ?_;simp only[List.drop_succ_cons,List.drop_zero];go_wp2;go_ret;exact⟨rfl,HM.out,HF.out⟩
def Eu(C:QC)(X:Nat→Prop)(ab mb nb:Nat)(w0:World)(s:Fz)(tv:Value)(id:Nat)(w:World)(e:Ending)(w':World):Prop:=
 ∃ka kc,e= .returned (ndV (C.nd id) ka kc)∧Mach C X ab mb nb w0 w' s tv∧Fr (fun q=>q=nb) w w'∧
   Keep mb w' tv (.slice ka (C.nd id).kids.length kc) (C.nd id).kids.length ((C.nd id).kids.map idV)
theorem Xi{ids:List Nat}{Mc:Nat→Option Hg.Node}{c:Nat}(h:∃ks:List Nat,ks.Nodup∧ks.length=c∧(∀k,(Mc k).isSome=true↔k∈ks)∧∀k∈ks,k∈ids):c≤ids.length:=by
 obtain⟨ks,h1,rfl,_,h4⟩:=h;exact List.Nodup.length_le_of_subset h1 fun k hk=>h4 k hk
theorem WF{ids:List Nat}{Mc:Nat→Option Hg.Node}{c id:Nat}(h:∃ks:List Nat,ks.Nodup∧ks.length=c∧(∀k,(Mc k).isSome=true↔k∈ks)∧∀k∈ks,k∈ids)(hid:id∈ids)(nd:Hg.Node):
 ∃ks:List Nat,ks.Nodup∧ks.length=(if (Mc id).isSome then c else c+1)∧(∀k,(putM Mc id nd k).isSome=true↔k∈ks)∧∀k∈ks,k∈ids:=by
 obtain⟨ks,h1,rfl,h3,h4⟩:=h;have hp:∀k,(putM Mc id nd k).isSome=true↔k=id∨k∈ks:=fun k=>by
  unfold putM;by_cases e:k=id
  ·rw[if_pos e];simp[e]
  ·rw[if_neg e,h3];simp[e]
 cases hM:(Mc id).isSome with
 |true=>
   have hm:=(h3 id).1 hM;refine⟨ks,h1,by simp,fun k=> ?_,h4⟩;rw[hp];exact⟨fun h=>h.elim (fun e=>e ▸ hm) fun h=>h,.inr⟩
 |false=>
   refine⟨id::ks,List.nodup_cons.2 ⟨(fun hm=>by rw[(h3 id).2 hm] at hM;cases hM),h1⟩,by simp,fun k=>by rw[hp];simp,fun k hk=> ?_⟩;rcases List.mem_cons.1 hk with e|e
   ·exact e ▸ hid
   ·exact h4 k e
theorem GN(b:Bool)(w:World):Calls Tryz.prog 217 #[.bool b] w fun e w'=>e= .returned (i64V (Hg.rOne b))∧w'=w:=by
 cases b
 ·go_enter Tryz.func217,Tryz.ntmps217
  go_wp2;go_ret;exact⟨rfl,rfl⟩
 ·go_enter Tryz.func217,Tryz.ntmps217
  go_wp2;go_ret;exact⟨rfl,rfl⟩
theorem Ph(by_:Bool)(x y:Int)(w:World):
 Calls Tryz.prog 216 #[.bool by_,i64V x,i64V y] w fun e w'=>e= .returned (.tuple (if y=0 then #[i64V 0,.bool false] else #[i64V (if by_ then wrap64 (x.tdiv y) else x.tmod y),.bool true]))∧w'=w:=by
 by_cases h0:y=0
 ·rw[if_pos h0]
  have q:(y==0)=true:=by simp[h0]
  go_enter Tryz.func216,Tryz.ntmps216;go_wp2;go_ret2;exact⟨rfl,rfl⟩
 ·rw[if_neg h0]
  have q:(y==0)=false:=by simp[h0]
  cases by_
  ·go_enter Tryz.func216,Tryz.ntmps216
   go_wp2;go_ret2;exact⟨rfl,rfl⟩
  ·go_enter Tryz.func216,Tryz.ntmps216
   go_wp2;go_ret2;exact⟨rfl,rfl⟩
def EN(op x y:Int)(w:World)(e:Ending)(w':World):Prop:=
 (∃v ok,e= .returned (.tuple #[i64V v,.bool ok])∧ok=(EK op x y).isSome∧∀u,EK op x y=some u→(op=12∨op=13→isB x∧isB y)→v=u)∧w'=w
theorem EQ(x:Int):Hg.Hq x=wrap64 x:=by simp[Hg.Hq,wrap64]
theorem EN.mk{op x y v:Int}{ok:Bool}{w:World}(h1:ok=(EK op x y).isSome)(h2:∀u,EK op x y=some u→(op=12∨op=13→isB x∧isB y)→v=u):EN op x y w (.returned (.tuple #[i64V v,.bool ok])) w:=⟨⟨v,ok,rfl,h1,h2⟩,rfl⟩
theorem UJ(op:Int)(hop:1≤op∧op≤13)(x y:Int)(w:World):Calls Tryz.prog 199 #[i64V op,i64V x,i64V y] w (EN op x y w):=by
 rcases(show op=1∨op=2∨op=3∨op=4∨op=5∨op=6∨op=7∨op=8∨op=9∨op=10∨op=11∨op=12∨op=13 by omega) with rfl|rfl|rfl|rfl|rfl|rfl|rfl|rfl|rfl|rfl|rfl|rfl|rfl
 ·skip
  go_enter Tryz.func199,Tryz.ntmps199;go_wp2;go_ret2;exact EN.mk rfl (fun u hu _=>by rw[←Option.some.inj hu,EQ])
 ·skip
  go_enter Tryz.func199,Tryz.ntmps199;go_wp2;go_ret2;exact EN.mk rfl (fun u hu _=>by rw[←Option.some.inj hu,EQ])
 ·skip
  go_enter Tryz.func199,Tryz.ntmps199;go_wp2;go_ret2;exact EN.mk rfl (fun u hu _=>by rw[←Option.some.inj hu,EQ])
 ·have T1:=fun W=>zz (Ph true x y W)
  go_enter Tryz.func199,Tryz.ntmps199;go_wp2_with fail;refine(T1 _).out.mono ?_;rintro e w1 ⟨rfl,rfl⟩;by_cases h0:y=0
  ·subst h0
   rw[if_pos rfl];clear T1;go_wp2;go_ret2;exact EN.mk rfl (fun u hu _=>by cases hu)
  ·simp only[if_neg h0,if_true]
   clear T1;have hf:EK 4 x y=some (wrap64 (x.tdiv y)):=by unfold EK;simp[h0,EQ]
   go_wp2;go_ret2;exact EN.mk (by rw[hf];rfl) (fun u hu _=>by rw[hf] at hu;exact Option.some.inj hu)
 ·have T1:=fun W=>zz (Ph false x y W)
  go_enter Tryz.func199,Tryz.ntmps199;go_wp2_with fail;refine(T1 _).out.mono ?_;rintro e w1 ⟨rfl,rfl⟩;by_cases h0:y=0
  ·subst h0
   rw[if_pos rfl];clear T1;go_wp2;go_ret2;exact EN.mk rfl (fun u hu _=>by cases hu)
  ·simp only[if_neg h0,Bool.false_eq_true,if_false]
   clear T1;have hf:EK 5 x y=some (x.tmod y):=by unfold EK;simp[h0]
   go_wp2;go_ret2;exact EN.mk (by rw[hf];rfl) (fun u hu _=>by rw[hf] at hu;exact Option.some.inj hu)
 ·skip
  have T1:=fun W=>zz (GN (decide (x < y)) W);go_enter Tryz.func199,Tryz.ntmps199;go_wp2_with fail;refine(T1 _).out.mono ?_;rintro e w1 ⟨rfl,rfl⟩;go_wp2;go_ret2;exact EN.mk rfl (fun u hu _=>Option.some.inj hu)
 ·skip
  have T1:=fun W=>zz (GN (decide (x≤y)) W);go_enter Tryz.func199,Tryz.ntmps199;go_wp2_with fail;refine(T1 _).out.mono ?_;rintro e w1 ⟨rfl,rfl⟩;go_wp2;go_ret2;exact EN.mk rfl (fun u hu _=>Option.some.inj hu)
 ·skip
  have T1:=fun W=>zz (GN (decide (y < x)) W);go_enter Tryz.func199,Tryz.ntmps199;go_wp2_with fail;refine(T1 _).out.mono ?_;rintro e w1 ⟨rfl,rfl⟩;go_wp2;go_ret2;exact EN.mk rfl (fun u hu _=>Option.some.inj hu)
 ·skip
  have T1:=fun W=>zz (GN (decide (y≤x)) W);go_enter Tryz.func199,Tryz.ntmps199;go_wp2_with fail;refine(T1 _).out.mono ?_;rintro e w1 ⟨rfl,rfl⟩;go_wp2;go_ret2;exact EN.mk rfl (fun u hu _=>Option.some.inj hu)
 ·skip
  have T1:=fun W=>zz (GN (decide (x=y)) W);go_enter Tryz.func199,Tryz.ntmps199;go_wp2_with fail;refine(T1 _).out.mono ?_;rintro e w1 ⟨rfl,rfl⟩;go_wp2;go_ret2;exact EN.mk rfl (fun u hu _=>Option.some.inj hu)
 ·have he:(x !=y)=decide (x≠y):=by rw[Bool.eq_iff_iff];simp
  have HE:=zz he;have T1:=fun W=>zz (GN (x !=y) W);clear he;go_enter Tryz.func199,Tryz.ntmps199;go_wp2_with fail;refine(T1 _).out.mono ?_;rintro e w1 ⟨rfl,rfl⟩;go_wp2;go_ret2;exact EN.mk rfl (fun u hu _=>by rw[HE.out];exact Option.some.inj hu)
 ·go_enter Tryz.func199,Tryz.ntmps199
  go_wp2;go_ret2;exact EN.mk rfl (fun u hu hb=>by
   obtain⟨b1,b2⟩:=hb (.inl rfl);rcases b1 with rfl|rfl <;>rcases b2 with rfl|rfl <;>exact Option.some.inj hu)
 ·go_enter Tryz.func199,Tryz.ntmps199
  go_wp2;go_ret2;exact EN.mk rfl (fun u hu hb=>by
   obtain⟨b1,b2⟩:=hb (.inr rfl);rcases b1 with rfl|rfl <;>rcases b2 with rfl|rfl <;>exact Option.some.inj hu)
theorem CB{w:World}{b:Nat}(nd:Hg.Node)(ka:Option Addr)(kc:Nat)(h:w.heap[b]? =some (.cells #[.int .u8 (nd.kind:Int),strV nd.name,.int .i64 nd.num,.int .u8 (nd.type:Int),.int .u64 (nd.ref:Int),.slice ka nd.kids.length kc] 48 (0,0))):
 w.cell? ⟨b,0,none⟩=some (.int .u8 (nd.kind:Int))∧w.cell? ⟨b,1,none⟩=some (strV nd.name)∧w.cell? ⟨b,2,none⟩=some (.int .i64 nd.num)∧w.cell? ⟨b,3,none⟩=some (.int .u8 (nd.type:Int))∧w.cell? ⟨b,4,none⟩=some (.int .u64 (nd.ref:Int))∧w.cell? ⟨b,5,none⟩=some (.slice ka nd.kids.length kc)∧∀i,w.frozen? ⟨b,i,none⟩=false:=by
 have z:=fun i=>AJ w b i _ _ (0,0) h;have z0:=z 0;have z1:=z 1;have z2:=z 2;have z3:=z 3;have z4:=z 4;have z5:=z 5;simp at z0 z1 z2 z3 z4 z5;exact⟨z0,z1,z2,z3,z4,z5,fun i=>by simp[World.frozen?,h]⟩
theorem GQ(h:Mach C X ab mb nb w0 w s tv)(id:Nat)(hid:id < Ah)(hin:id∈C.ids):
 Calls Tryz.prog 52 #[.pointer (some ⟨mb,0,none⟩),.int .u64 (id:Int)] w (Eu C X ab mb nb w0 s tv id w):=by
 have hb1:Below w.heap.size w (w.alloc (.cells #[.int .u8 0,.string ⟨#[]⟩,.int .i64 0,.int .u8 0,.int .u64 0,.slice none 0 0] 48)):=(AL).alloc AA _;have hn1:=AX w (.cells #[.int .u8 0,.string ⟨#[]⟩,.int .i64 0,.int .u8 0,.int .u64 0,.slice none 0 0] 48);have hz1:(w.alloc (.cells #[.int .u8 0,.string ⟨#[]⟩,.int .i64 0,.int .u8 0,.int .u64 0,.slice none 0 0] 48)).heap.size=w.heap.size+1:=by simp
 have hm1:=h.below hb1;obtain⟨c0,c1,-,-,-,-,-,-,-⟩:=hm1.read;obtain⟨c,Mc,hm,hc,hn⟩:=h.nodes;have HM0:=zz h;have HM1:=zz hm1;cases hM:Mc id with
 |some nd=>
   obtain⟨ka,kc,hlk,hs,hz⟩:=hm.lookZ hb1 hid hM;have hnd:nd=C.nd id:=hn id nd hM;subst hnd;have HK:=zz (show Keep mb w tv (.slice ka (C.nd id).kids.length kc) (C.nd id).kids.length ((C.nd id).kids.map idV) from⟨hs,fun _ q e=>⟨(hz q e).1,(hz q e).2.1⟩⟩);have HND:=zz (show∃nd,C.nd id=nd from⟨_,rfl⟩);unfold Eu;generalize C.nd id=nd at hlk HK⊢;clear hs hz hm hn hM hm1 h HND;go_enter Tryz.func52,Tryz.ntmps52;go_upto_region 1 with fail;generalize World.alloc w _=w1 at hb1 hn1 hz1 c0 c1 HM1 hlk⊢;go_upto_region 2 with fail;have hn2:=AX w1 (.cells #[.int .u8 (nd.kind:Int),strV nd.name,.int .i64 nd.num,.int .u8 (nd.type:Int),.int .u64 (nd.ref:Int),.slice ka nd.kids.length kc] 48);have hb2:=hb1.alloc (by omega) (.cells #[.int .u8 (nd.kind:Int),strV nd.name,.int .i64 nd.num,.int .u8 (nd.type:Int),.int .u64 (nd.ref:Int),.slice ka nd.kids.length kc] 48);have hk2:=(heap_alloc_old w1 (.cells #[.int .u8 (nd.kind:Int),strV nd.name,.int .i64 nd.num,.int .u8 (nd.type:Int),.int .u64 (nd.ref:Int),.slice ka nd.kids.length kc] 48) (show w.heap.size < w1.heap.size by omega)).trans hn1;rw[hz1] at hn2;generalize World.alloc w1 _=w2 at hn2 hb2 hk2⊢;obtain⟨z0,z1,z2,z3,z4,z5,zf⟩:=CB nd ka kc hn2;have f2:∀i,w2.frozen? ⟨w.heap.size,i,none⟩=false:=fun i=>by simp[World.frozen?,hk2]
   have cc:=fun i=>AJ w2 w.heap.size i _ _ (0,0) hk2;have y0:=cc 0;have y1:=cc 1;have y2:=cc 2;have y3:=cc 3;have y4:=cc 4;have y5:=cc 5;simp at y0 y1 y2 y3 y4 y5;have HB2:=zz hb2;clear c0 c1 hlk hb1 hn1 cc hk2 hn2 hb2 zf;go_wp2;have hbF:=Bg HB2.out AA (.int .u8 (nd.kind:Int)) (strV nd.name) (.int .i64 nd.num) (.int .u8 (nd.type:Int)) (.int .u64 (nd.ref:Int)) (.slice ka nd.kids.length kc);exact bodyPost_ret (v:=ndV nd ka kc) (by simp[results,Tryz.results52,go_sem,y0,y1,y2,y3,y4,y5,f2]) rfl ⟨ka,kc,rfl,(HM0.out.below hbF),Fr.of_below hbF,HK.out.below hbF⟩
 |none=>
   have hlk:=(hm.below hb1 AA).look hid|>.1 hM
   have TG:=zz (fun W (hb:Below w.heap.size w W)=>(HM0.out.below hb).arOk.getN hid);have hlen:=h.arOk.len id;have hndq:Hg.ndAt C.M id=C.nd id:=rfl;unfold Eu;rw[hndq] at hlen;have HMC:=zz (And.intro hm (And.intro hc hn));have HMN:=zz hM;clear hm hn hM hm1 h;go_enter Tryz.func52,Tryz.ntmps52;go_upto_region 1 with fail;generalize World.alloc w _=w1 at hb1 hn1 hz1 c0 c1 HM1 hlk⊢;go_upto_region 2 with fail;generalize hWa:World.alloc w1 _=w2;obtain⟨hb2',hn2,hz2⟩:=Iq hWa;have hk2:=(hb2'.block w.heap.size (by omega)).trans hn1;have hb2:=hb1.trans (hb2'.mono hb1.size);rw[hz1] at hn2;clear hWa hb2' hlk hn1;have f2:∀i,w2.frozen? ⟨w.heap.size,i,none⟩=false:=fun i=>by simp[World.frozen?,hk2]
   have f3:∀i,w2.frozen? ⟨w.heap.size+1,i,none⟩=false:=fun i=>by simp[World.frozen?,hn2]
   have c02:=(hb2.cell (p:=⟨mb,0,none⟩) HM0.out.lt).trans HM0.out.read.1;have HB2:=zz hb2;have TG2:=zz (TG.out w2 hb2);have HN2:=zz (And.intro hn2 hk2);clear hn2 hk2 hb2 c0 c1 TG hb1;go_wp2_with fail;refine TG2.out.mono ?_;rintro e w3 ⟨ka,kc,rfl,ho3,hb3⟩;rw[show Hg.ndAt C.M id=C.nd id from rfl] at ho3⊢;have HND:=zz (show∀i n,Mc i=some n→n=C.nd i from HMC.out.2.2);generalize hnd:C.nd id=nd at hlen ho3⊢;have hb23:=HB2.out.trans (hb3.mono HB2.out.size);have hn3:=(hb3.block (w.heap.size+1) (by omega)).trans HN2.out.1;have hk3:=(hb3.block w.heap.size (by omega)).trans HN2.out.2;have f3:∀i,w3.frozen? ⟨w.heap.size+1,i,none⟩=false:=fun i=>by simp[World.frozen?,hn3]
   have cc:=fun i=>AJ w3 (w.heap.size+1) i _ _ (0,0) hn3;have y0:=cc 0;have y1:=cc 1;have y2:=cc 2;have y3:=cc 3;have y4:=cc 4;have y5:=cc 5;simp at y0 y1 y2 y3 y4 y5;have hb4:=Bg hb23 (show w.heap.size≤w.heap.size+1 by omega) (.int .u8 (nd.kind:Int)) (strV nd.name) (.int .i64 nd.num) (.int .u8 (nd.type:Int)) (.int .u64 (nd.ref:Int)) (.slice ka nd.kids.length kc);have ho4:=PW ho3 (show w.heap.size+1 < w2.heap.size by omega) (.int .u8 (nd.kind:Int)) (strV nd.name) (.int .i64 nd.num) (.int .u8 (nd.type:Int)) (.int .u64 (nd.ref:Int)) (.slice ka nd.kids.length kc);have hk4:=((Bg (Below.refl (w.heap.size+1) w3) AA (.int .u8 (nd.kind:Int)) (strV nd.name) (.int .i64 nd.num) (.int .u8 (nd.type:Int)) (.int .u64 (nd.ref:Int)) (.slice ka nd.kids.length kc)).block w.heap.size (by omega)).trans hk3;have hn4:=heap_setCell_same (i:=5) (heap_setCell_same (i:=4) (heap_setCell_same (i:=3) (heap_setCell_same (i:=2) (heap_setCell_same (i:=1) (heap_setCell_same (i:=0) hn3 (.int .u8 (nd.kind:Int))) (strV nd.name)) (.int .i64 nd.num)) (.int .u8 (nd.type:Int))) (.int .u64 (nd.ref:Int))) (.slice ka nd.kids.length kc);have hs3:=hb3.size;clear hb23 hn3 hk3 cc f2 TG2;go_upto_region 4 with fail;clear y0 y1 y2 y3 y4 y5 f3 hb3 ho3;generalize World.setCell (World.setCell (World.setCell (World.setCell (World.setCell (World.setCell w3 _ _) _ _) _ _) _ _) _ _) _ _=w4 at hb4 ho4 hk4 hn4⊢;replace hn4:w4.heap[w.heap.size+1]? =some (.cells #[.int .u8 (nd.kind:Int),strV nd.name,.int .i64 nd.num,.int .u8 (nd.type:Int),.int .u64 (nd.ref:Int),.slice ka nd.kids.length kc] 48 (0,0)):=hn4;obtain⟨z0,z1,z2,z3,z4,z5,-⟩:=CB nd ka kc hn4;have hm4:=HM0.out.below hb4;have hml:=HM0.out.lt;have htl:=fun q e=>(HM0.out.tr.lt q e).2;obtain⟨w5,hrun,hA5,hg5⟩:=(((HMC.out.1.below hb4.drew AA).imp (Z':=fun q=>q≠mb∧tv.ownBlock≠some q∧(q < w4.drew.heap.size∧¬X q)∧q≠w.heap.size) (fun q hz=>⟨hz.1,hz.2.1,⟨AR hz.2.2.1 hb4.size,hz.2.2.2⟩,by have:=hz.2.2.1;omega⟩))).store (AC (Xi HMC.out.2.1) HM0.out.il) hid nd ka kc (Sl.Aj ho4.drew) hlen (fun q e=>by
    have h1:=ho4.lt q e;exact⟨by omega,fun e'=>by have:=htl q e';omega,⟨h1.2,fun hx=>by have:=HM0.out.xl q hx;omega⟩,by omega⟩)
   have c14:=hm4.drew.read.2.1;have hHeld:(fun w':World=>w'.cell? ⟨mb,1,none⟩=some (.map (some nb))∧w'.cell? ⟨w.heap.size+1,0,none⟩=some (.int .u8 (nd.kind:Int))∧w'.cell? ⟨w.heap.size+1,1,none⟩=some (strV nd.name)∧w'.cell? ⟨w.heap.size+1,2,none⟩=some (.int .i64 nd.num)∧w'.cell? ⟨w.heap.size+1,3,none⟩=some (.int .u8 (nd.type:Int))∧w'.cell? ⟨w.heap.size+1,4,none⟩=some (.int .u64 (nd.ref:Int))∧w'.cell? ⟨w.heap.size+1,5,none⟩=some (.slice ka nd.kids.length kc)) w4.drew:=⟨c14,z0,z1,z2,z3,z4,z5⟩;have HP5:=zz (fun w6 (hf:Fr (fun q=>q=w.heap.size) w5 w6)=>hm4.drew.put hA5 hg5 (x:=w.heap.size) ⟨HM0.out.bel.size,by omega,by have:=HMC.out.1.lt;omega,fun e=>by have:=htl _ e;omega⟩ hf (WF HMC.out.2.1 hin nd) (fun i n hi=>by
    unfold putM at hi;by_cases e:i=id
    ·rw[if_pos e] at hi;injection hi with hi;rw[←hi,e,hnd]
    ·rw[if_neg e] at hi;exact HMC.out.2.2 i n hi))
   have hnbl:nb < w.heap.size:=HMC.out.1.lt;have hfw5:Fr (fun q=>q=nb) w4.drew w5:=Fr.Y1 hg5 (fun q e=>by injection e with e;exact e.symm);have hk5:=hfw5.at_ (show w4.drew.heap[w.heap.size]? =_ from hk4) (by omega);have hn5:=hfw5.at_ (show w4.drew.heap[w.heap.size+1]? =_ from hn4) (by omega);have HF5:=zz (show Fr (fun q=>q=nb) w w5 from((Fr.of_below hb4.drew:Fr (fun q=>q=nb) w w4.drew)).trans hfw5);have HO5:=zz (show w5.ownsRow w2.heap.size 45 1 (.slice ka nd.kids.length kc) nd.kids.length (nd.kids.map idV) from Am ho4.drew hfw5 (fun q e e'=>by have:=(ho4.lt q e).1;omega));clear hA5 hg5 hfw5 hm4 ho4 hb4 hn4 hk4 c14 z0 z1 z2 z3 z4 z5 HMC HN2 htl;refine Ap (fun w':World=>w'.cell? ⟨mb,1,none⟩=some (.map (some nb))∧w'.cell? ⟨w.heap.size+1,0,none⟩=some (.int .u8 (nd.kind:Int))∧w'.cell? ⟨w.heap.size+1,1,none⟩=some (strV nd.name)∧w'.cell? ⟨w.heap.size+1,2,none⟩=some (.int .i64 nd.num)∧w'.cell? ⟨w.heap.size+1,3,none⟩=some (.int .u8 (nd.type:Int))∧w'.cell? ⟨w.heap.size+1,4,none⟩=some (.int .u64 (nd.ref:Int))∧w'.cell? ⟨w.heap.size+1,5,none⟩=some (.slice ka nd.kids.length kc)) 6 (by kernel_rfl) ?_;refine tz 0 ?_;refine tz 1 ?_;refine tz 2 ?_;refine tz 3 ?_;refine tz 4 ?_;refine tz 5 ?_;refine Ag (by kernel_rfl) ?_;simp only[List.drop_succ_cons,List.drop_zero];clear hHeld;go_upto_region 5 with fail;obtain⟨z0,z1,z2,z3,z4,z5,-⟩:=CB nd ka kc hn5;have f5:∀i,w5.frozen? ⟨w.heap.size,i,none⟩=false:=fun i=>by simp[World.frozen?,hk5]
   have cc:=fun i=>AJ w5 w.heap.size i _ _ (0,0) hk5;have y0:=cc 0;have y1:=cc 1;have y2:=cc 2;have y3:=cc 3;have y4:=cc 4;have y5:=cc 5;simp at y0 y1 y2 y3 y4 y5;clear cc hn5 hk5 hrun;go_wp2;subst hnd;have hfr6:Fr (fun q=>q=w.heap.size) w5 ((((((w5.setCell ⟨w.heap.size,0,none⟩ (.int .u8 ((C.nd id).kind:Int))).setCell ⟨w.heap.size,1,none⟩ (strV (C.nd id).name)).setCell ⟨w.heap.size,2,none⟩ (.int .i64 (C.nd id).num)).setCell ⟨w.heap.size,3,none⟩ (.int .u8 ((C.nd id).type:Int))).setCell ⟨w.heap.size,4,none⟩ (.int .u64 ((C.nd id).ref:Int))).setCell ⟨w.heap.size,5,none⟩ (.slice ka (C.nd id).kids.length kc)):=
    ((((((Fr.refl (fun q=>q=w.heap.size) w5).set (p:=⟨w.heap.size,0,none⟩) (.inl rfl) _).set (p:=⟨w.heap.size,1,none⟩) (.inl rfl) _).set (p:=⟨w.heap.size,2,none⟩) (.inl rfl) _).set (p:=⟨w.heap.size,3,none⟩) (.inl rfl) _).set (p:=⟨w.heap.size,4,none⟩) (.inl rfl) _).set (p:=⟨w.heap.size,5,none⟩) (.inl rfl) _
   have ho6:=Am HO5.out hfr6 (fun q e e'=>by have:=(HO5.out.lt q e).1;omega);exact bodyPost_ret (v:=ndV (C.nd id) ka kc) (by simp[results,Tryz.results52,go_sem,y0,y1,y2,y3,y4,y5,f5]) rfl ⟨ka,kc,rfl,HP5.out _ hfr6,HF5.out.Dw hfr6 (fun q hq e=>by omega),Sl.Aj ho6,fun _ q e=>⟨by have:=(ho6.lt q e).1;have:=HM0.out.lt;omega,fun e'=>by have h1:=(ho6.lt q e).1;have h2:=(HM0.out.tr.lt q e').2;omega⟩⟩
end
open Hg (Out Ey Pp pairT)
section
variable {C:QC} {X:Nat→Prop} {ab mb nb fb n:Nat} {w0 w w':World} {s s':Fz} {tv tv':Value} {R:FV}
def RB:Nat:=4000000000000000000
def ERes(C:QC)(X:Nat→Prop)(ab mb nb fb:Nat)(w0:World)(tv:Value)(V:FV)(o:Option FO)(s':Fz)(w:World)(e:Ending)(w':World):Prop:=
 ∃x tv',e= .returned (i64V x)∧(∀a,o=some a→x=a.x)∧St C X ab mb nb fb w0 w' s' tv' V∧Ay mb nb nb w tv w' tv'
def FB(C:QC)(ab mb nb:Nat)(w0:World)(d:Nat):Prop:=
 ∀(X:Nat→Prop) (fb id:Nat) (V:FV) (s s':Fz) (o:Option FO) (tv:Value) (w:World),id∈C.ids→Out C.fuel C.input (Ak C.nd d (.expr V id)) s o s'→s'.rd≤RB→St C X ab mb nb fb w0 w s tv V→
   Calls Tryz.prog 144 #[.pointer (some ⟨mb,0,none⟩),.int .u64 (id:Int),.map (some fb)] w (ERes C X ab mb nb fb w0 tv V o s' w)
theorem St.nobj(h:St C X ab mb nb fb w0 w s tv R):∃es ck,w.heap[nb]? =some (.map es ck):=h.m.nobj
theorem St.fobj(h:St C X ab mb nb fb w0 w s tv R):∃es ck,w.heap[fb]? =some (.map es ck):=by
 obtain⟨n,hf,_⟩:=h.f;exact hf.obj
theorem St.md(h:St C X ab mb nb fb w0 w s tv R)(q:Nat)(e:MD mb nb fb tv q):q < w.heap.size:=by
 rcases e with e|e|e|e
 ·rw[e];exact h.m.lt
 ·obtain⟨es,ck,h9⟩:=h.nobj;rw[e];exact(Ab.1 h9).1
 ·obtain⟨es,ck,h9⟩:=h.fobj;rw[e];exact(Ab.1 h9).1
 ·exact(h.m.tr.lt q e).2
theorem MD.wid{q:Nat}(e:MD mb nb nb tv q):MD mb nb fb tv q:=e.elim .inl fun e=>e.elim (fun e=> .inr (.inl e)) fun e=>e.elim (fun e=> .inr (.inl e)) fun e=> .inr (.inr (.inr e))
theorem Ay.wide(h:Ay mb nb nb w tv w' tv'):Ay mb nb fb w tv w' tv':=⟨h.1.imp (fun q _ e=>MD.wid e),h.2⟩
theorem Ay.frame{k:Nat}(hs:Ay mb nb nb w tv w' tv')(hf:FrAt w fb k R)(h:St C X ab mb nb fb w0 w s tv R):FrAt w' fb k R:=by
 obtain⟨es,ck,hm⟩:=hf.obj;refine hf.fr hs.1 ?_;rintro(e|e|e|e)
 ·exact h.fne e
 ·exact h.ne e
 ·exact h.ne e
 ·rcases Cs h.m.tr hm with h1|h1
  ·rw[h1] at e;cases e
  ·exact h1 e
theorem Ay.far{q:Nat}(h:Ay mb nb fb w tv w' tv')(hq:q < w.heap.size)(hn:¬MD mb nb fb tv q):¬MD mb nb fb tv' q:=by
 rintro(e|e|e|e)
 ·exact hn (.inl e)
 ·exact hn (.inr (.inl e))
 ·exact hn (.inr (.inr (.inl e)))
 ·rcases h.2 q e with e|e
  ·exact hn (.inr (.inr (.inr e)))
  ·omega
theorem YN(d:Nat)(hE:FB C ab mb nb w0 d)(nd:Hg.Node)(ka:Option Addr)(kc:Nat)(h:St C X ab mb nb fb w0 w s tv R)(hk:Keep mb w tv (.slice ka nd.kids.length kc) nd.kids.length (nd.kids.map idV))(hl:nd.kids.length=2)(hop:1≤nd.num∧nd.num≤13)(hin:∀k∈nd.kids,k∈C.ids)
 (o:Option FO) (s':Fz) (hrd:s'.rd≤RB)
 (hrun:Out C.fuel C.input ((Ak C.nd d (.expr R (nd.k 0))).bind fun p=>if Ey nd.num p.x then .ret ⟨p.x,R⟩ else(Ak C.nd d (.expr R (nd.k 1))).bind fun q=>pairT nd R p.x q.x) s o s'):
 Calls Tryz.prog 172 #[.pointer (some ⟨mb,0,none⟩),ndV nd ka kc,.map (some fb)] w (ERes C X ab mb nb fb w0 tv R o s' w):=by
 obtain⟨o1,s1,h1,hr1,hrest⟩:=Pp hrun;have hbA:Below w.heap.size w (w.alloc (.cells #[.int .u8 (nd.kind:Int),strV nd.name,.int .i64 nd.num,.int .u8 (nd.type:Int),.int .u64 (nd.ref:Int),.slice ka nd.kids.length kc] 48)):=(AL).alloc AA _;have hnA:=AX w (.cells #[.int .u8 (nd.kind:Int),strV nd.name,.int .i64 nd.num,.int .u8 (nd.type:Int),.int .u64 (nd.ref:Int),.slice ka nd.kids.length kc] 48);have hzA:(w.alloc (.cells #[.int .u8 (nd.kind:Int),strV nd.name,.int .i64 nd.num,.int .u8 (nd.type:Int),.int .u64 (nd.ref:Int),.slice ka nd.kids.length kc] 48)).heap.size=w.heap.size+1:=by simp
 have hfar:¬MD mb nb nb tv w.heap.size:=fun e=>Nat.lt_irrefl _ (h.md _ (MD.wid e));have TEV:=fun x y W=>zz (UJ nd.num hop x y W);have HK:=zz (hk.below hbA);have HE:=zz hE;have HS0:=zz (h.below hbA);have HB0:=zz hbA;have HFAR:=zz hfar;have HR:=zz hrest;have HRD:=zz (And.intro hr1 hrd);have h0l:0 < nd.kids.length:=by omega
 have h1l:1 < nd.kids.length:=by omega
 have hm0:nd.k 0∈C.ids:=hin _ (Hg.Node.Dy h0l);have hm1:nd.k 1∈C.ids:=hin _ (Hg.Node.Dy h1l);have HM1:=zz hm1;have hk0:nd.kids[0]=nd.k 0:=by unfold Hg.Node.k;simp[List.getD,h0l]
 have hk1:nd.kids[1]=nd.k 1:=by unfold Hg.Node.k;simp[List.getD,h1l]
 have HK1e:=zz hk1;generalize nd.k 0=i0 at h1 hm0 hk0;clear h hk hE hrun hrest hr1 hrd hin hm1 hk1 hl hop hfar;go_enter Tryz.func172,Tryz.ntmps172;go_upto_region 1 with fail;generalize World.alloc w _=wA at hbA hnA hzA HK HS0 HB0⊢;obtain⟨z0,-,z2,-,-,z5,-⟩:=CB nd ka kc hnA;obtain⟨b,ob,rfl,hbl,e0⟩:=HK.out.1.idAt (l:=nd.kids) (k:=0) (by omega);rw[hk0,Nat.add_zero] at e0;have T1:=zz (HE.out X fb _ R s s1 o1 tv wA hm0 h1 (AC HRD.out.1 HRD.out.2) HS0.out);clear hbA hk0 h1 hm0;go_wp2_with fail;refine T1.out.mono ?_;rintro e w1 ⟨x,tv1,rfl,hx,hS1,hs1⟩;have hn1:=hs1.1.at_ hnA HFAR.out;have hfar1:=hs1.far (by omega) HFAR.out;have HK1:=zz (HK.out.step hs1 HS0.out.nobj HS0.out.nobj);have HX:=zz (HR.out x hx);have HS1:=zz hS1;have HM1s:=zz ((Ay.of_below HB0.out).trans hs1);have HN1:=zz hn1;have HFAR1:=zz hfar1;have hz1:=hs1.1.size;clear T1 z0 z2 z5 e0 hnA hs1 hx HR hfar1;obtain⟨-,-,y2,-,-,y5,-⟩:=CB nd _ kc hn1;clear hn1;by_cases hsh:Ey nd.num x
 ·obtain⟨hs',hox⟩:=HX.out.1 hsh
  subst hs';have HOX:=zz hox;clear hox hS1;rcases hsh with⟨e12,ex⟩|⟨e13,ex⟩
  ·have q1:(nd.num==12)=true:=by simp[e12]
   have q2:(x==0)=true:=by simp[ex]
   clear e12 ex;go_wp2;go_ret;exact⟨x,tv1,rfl,HOX.out,HS1.out,HM1s.out⟩
  ·have q1:(nd.num==12)=false:=by rw[e13];rfl
   have q2:(nd.num==13)=true:=by simp[e13]
   have q3:(x !=0)=true:=by simpa using ex
   clear e13 ex;go_wp2;go_ret;exact⟨x,tv1,rfl,HOX.out,HS1.out,HM1s.out⟩
 ·obtain⟨o2,s2,h2,hr2,hlast⟩:=HX.out.2 hsh
  have HL:=zz hlast;obtain⟨b',o',hbo,hbl1,e1⟩:=HK1.out.1.idAt (l:=nd.kids) (k:=1) (by omega);rw[HK1e.out] at e1;injection hbo with hbo;injection hbo with hb1 hb2;subst hb1;subst hb2;have T2:=zz (HE.out X fb _ R s1 s2 o2 tv1 w1 HM1.out h2 (AC hr2 HRD.out.2) hS1);generalize nd.k 1=i1 at e1 T2;have HSH:=zz hsh;clear hS1 h2 hr2 hlast HX;have q3:(nd.num=12∧x≠0)∨(nd.num≠12∧nd.num=13∧x=0)∨(nd.num≠12∧nd.num≠13):=by
   by_cases a:nd.num=12
   ·exact .inl ⟨a,fun e=>hsh (.inl ⟨a,e⟩)⟩
   ·by_cases b:nd.num=13
    ·exact .inr (.inl ⟨a,b,Classical.byContradiction fun e=>hsh (.inr ⟨b,e⟩)⟩)
    ·exact .inr (.inr ⟨a,b⟩)
  clear hsh;rcases q3 with⟨a,b⟩|⟨a,b,c⟩|⟨a,b⟩
  ·have q1:(nd.num==12)=true:=by simp[a]
   have q2:(x==0)=false:=by simpa using b
   have q3:(nd.num==13)=false:=by rw[a];rfl
   clear a b;go_wp2_with fail;refine T2.out.mono ?_;rintro e w2 ⟨y,tv2,rfl,hy,hS2,hs2⟩;have hn2:=hs2.1.at_ HN1.out HFAR1.out;obtain⟨-,-,x2,-,-,-,-⟩:=CB nd _ kc hn2;have HL2:=zz (HL.out y hy);have HS2:=zz hS2;have HM2:=zz (HM1s.out.trans hs2);have m4:=hS2.m.read.2.2.2.1;have f4:=hS2.m.read.2.2.2.2.2.2.2.2 4;clear hS2 hs2 hn2 hy T2 q1 q2 y2 y5 e1;go_wp2_with fail;refine(TEV _ _ _).out.mono ?_;rintro e w3 ⟨⟨v,ok,rfl,hok,hv⟩,rfl⟩;obtain⟨hs',hov⟩:=HL2.out v ok hok hv;have HOV:=zz hov;clear hok hv hov;cases ok with
   |true=>
     rw[if_neg (by simp)] at hs';subst hs';go_wp2;go_ret;exact⟨v,tv2,rfl,HOV.out,HS2.out,HM2.out⟩
   |false=>
     by_cases he:s2.e=0
     ·rw[if_pos ⟨rfl,he⟩] at hs'
      subst hs';have q4:((s2.e:Int)==0)=true:=by simp[he]
      have HS3:=zz (HS2.out.burn (HS2.out.m.setEnd 1) ((Fr.refl (fun q=>q=mb) w3).set (.inl rfl) _) AA);have HM3:=zz (HM2.out.trans (Ay.ofM (nb:=nb) (fb:=nb) (tv:=tv2) ((Fr.refl (fun q=>q=mb) w3).set (p:=⟨mb,4,none⟩) (.inl rfl) (.int .u8 1))));clear he;go_wp2;go_ret;exact⟨v,tv2,rfl,HOV.out,HS3.out,HM3.out⟩
     ·rw[if_neg (fun h=>he h.2)] at hs'
      have q4:((s2.e:Int)==0)=false:=by rw[beq_eq_false_iff_ne];omega
      subst hs';clear he;go_wp2;go_ret;exact⟨v,tv2,rfl,HOV.out,HS2.out,HM2.out⟩
  ·have q1:(nd.num==12)=false:=by simpa using a
   have q2:(nd.num==13)=true:=by simp[b]
   have q3:(x !=0)=false:=by rw[c];rfl
   clear a b c;go_wp2_with fail;refine T2.out.mono ?_;rintro e w2 ⟨y,tv2,rfl,hy,hS2,hs2⟩;have hn2:=hs2.1.at_ HN1.out HFAR1.out;obtain⟨-,-,x2,-,-,-,-⟩:=CB nd _ kc hn2;have HL2:=zz (HL.out y hy);have HS2:=zz hS2;have HM2:=zz (HM1s.out.trans hs2);have m4:=hS2.m.read.2.2.2.1;have f4:=hS2.m.read.2.2.2.2.2.2.2.2 4;clear hS2 hs2 hn2 hy T2 q1 q2 y2 y5 e1;go_wp2_with fail;refine(TEV _ _ _).out.mono ?_;rintro e w3 ⟨⟨v,ok,rfl,hok,hv⟩,rfl⟩;obtain⟨hs',hov⟩:=HL2.out v ok hok hv;have HOV:=zz hov;clear hok hv hov;cases ok with
   |true=>
     rw[if_neg (by simp)] at hs';subst hs';go_wp2;go_ret;exact⟨v,tv2,rfl,HOV.out,HS2.out,HM2.out⟩
   |false=>
     by_cases he:s2.e=0
     ·rw[if_pos ⟨rfl,he⟩] at hs'
      subst hs';have q4:((s2.e:Int)==0)=true:=by simp[he]
      have HS3:=zz (HS2.out.burn (HS2.out.m.setEnd 1) ((Fr.refl (fun q=>q=mb) w3).set (.inl rfl) _) AA);have HM3:=zz (HM2.out.trans (Ay.ofM (nb:=nb) (fb:=nb) (tv:=tv2) ((Fr.refl (fun q=>q=mb) w3).set (p:=⟨mb,4,none⟩) (.inl rfl) (.int .u8 1))));clear he;go_wp2;go_ret;exact⟨v,tv2,rfl,HOV.out,HS3.out,HM3.out⟩
     ·rw[if_neg (fun h=>he h.2)] at hs'
      have q4:((s2.e:Int)==0)=false:=by rw[beq_eq_false_iff_ne];omega
      subst hs';clear he;go_wp2;go_ret;exact⟨v,tv2,rfl,HOV.out,HS2.out,HM2.out⟩
  ·have q1:(nd.num==12)=false:=by simpa using a
   have q2:(nd.num==13)=false:=by simpa using b
   clear a b;go_wp2_with fail;refine T2.out.mono ?_;rintro e w2 ⟨y,tv2,rfl,hy,hS2,hs2⟩;have hn2:=hs2.1.at_ HN1.out HFAR1.out;obtain⟨-,-,x2,-,-,-,-⟩:=CB nd _ kc hn2;have HL2:=zz (HL.out y hy);have HS2:=zz hS2;have HM2:=zz (HM1s.out.trans hs2);have m4:=hS2.m.read.2.2.2.1;have f4:=hS2.m.read.2.2.2.2.2.2.2.2 4;clear hS2 hs2 hn2 hy T2 q1 q2 y2 y5 e1;go_wp2_with fail;refine(TEV _ _ _).out.mono ?_;rintro e w3 ⟨⟨v,ok,rfl,hok,hv⟩,rfl⟩;obtain⟨hs',hov⟩:=HL2.out v ok hok hv;have HOV:=zz hov;clear hok hv hov;cases ok with
   |true=>
     rw[if_neg (by simp)] at hs';subst hs';go_wp2;go_ret;exact⟨v,tv2,rfl,HOV.out,HS2.out,HM2.out⟩
   |false=>
     by_cases he:s2.e=0
     ·rw[if_pos ⟨rfl,he⟩] at hs'
      subst hs';have q4:((s2.e:Int)==0)=true:=by simp[he]
      have HS3:=zz (HS2.out.burn (HS2.out.m.setEnd 1) ((Fr.refl (fun q=>q=mb) w3).set (.inl rfl) _) AA);have HM3:=zz (HM2.out.trans (Ay.ofM (nb:=nb) (fb:=nb) (tv:=tv2) ((Fr.refl (fun q=>q=mb) w3).set (p:=⟨mb,4,none⟩) (.inl rfl) (.int .u8 1))));clear he;go_wp2;go_ret;exact⟨v,tv2,rfl,HOV.out,HS3.out,HM3.out⟩
     ·rw[if_neg (fun h=>he h.2)] at hs'
      have q4:((s2.e:Int)==0)=false:=by rw[beq_eq_false_iff_ne];omega
      subst hs';clear he;go_wp2;go_ret;exact⟨v,tv2,rfl,HOV.out,HS2.out,HM2.out⟩
end
open Hg (seqT SE SF)
section
variable {C:QC} {X:Nat→Prop} {ab mb nb fb n:Nat} {w0 w w':World} {s s':Fz} {tv tv':Value} {R:FV}
theorem YL(h:Mach C X ab mb nb w0 w s tv)(hr:s.rd < RB):
 Calls Tryz.prog 170 #[.pointer (some ⟨mb,0,none⟩)] w fun e w'=>e= .returned (i64V (C.input.getD s.rd 0))∧Mach C X ab mb nb w0 w' {s with rd:=s.rd+1} tv∧Fr (fun q=>q=mb) w w':=by
 unfold RB at hr;generalize hgd:C.input.getD s.rd 0=g;have HG:=zz hgd;clear hgd;obtain⟨-,-,-,-,-,-,-,c8,hf⟩:=h.read;have f8:=hf 8;have hw1:wrap64 ((s.rd:Int)+1)=((s.rd+1:Nat):Int):=by unfold wrap64;omega
 have hM:=h.setRd (s.rd+1);have hF:=(Fr.refl (fun q=>q=mb) w).set (p:=⟨mb,8,none⟩) (.inl rfl) (.int .i64 ((s.rd+1:Nat):Int));rw[show((s.rd+1:Nat):Int)=(s.rd:Int)+1 from by simp] at hM hF hw1;have HM:=zz hM;have HF:=zz hF;have HI:=zz h.inp;clear hf h hM hF;go_enter Tryz.func170,Tryz.ntmps170;go_upto_region 2 with fail;generalize World.setCell w _ _=w1 at HM HF⊢;obtain⟨-,-,-,-,-,-,c2,d8,-⟩:=HM.out.read;replace d8:w1.cell? ⟨mb,8,none⟩=some (.int .i64 ((s.rd:Int)+1)):=by simpa using d8
 obtain⟨a,c,hiv⟩:=HI.out.1.form;rw[hiv] at c2;clear c8 f8;have hw2:wrap64 ((s.rd:Int)+1-1)=(s.rd:Int):=by unfold wrap64;omega
 have hil:=HI.out.2;by_cases hlt:s.rd < C.input.length
 ·have hS:=HI.out.1
  rw[hiv] at hS;obtain⟨a',c',e0,hc⟩:=hS;injection e0 with e1 e2 e3;subst e1;subst e3;obtain⟨b,o,rfl,hb,hx⟩:=hc (by simp;omega);have cx:=hx s.rd (by simpa using hlt);rw[List.getElem_map] at cx;have cx1:=((HM.out.bel).cell (p:=⟨b,o+s.rd,none⟩) hb).trans cx;have q1:decide ((C.input.length:Int) < (s.rd:Int)+1)=false:=by simp;omega
  have hg:C.input.getD s.rd 0=C.input[s.rd]:=by simp[List.getD,AY hlt]
  rw[HG.out] at hg;rw[←hg] at cx1;clear hx hc cx hg
  go_quiet (fail)
  go_upto_region 4 with fail
  go_quiet (fail)
  go_wp2;go_ret;exact⟨rfl,HM.out.below (below_drewN (AL) _),HF.out.trans (Fr.of_below (below_drewN (AL) _))⟩
 ·have q1:decide ((C.input.length:Int) < (s.rd:Int)+1)=true:=by simp;omega
  have hg:C.input.getD s.rd 0=0:=by simp[List.getD,List.getElem?_eq_none (show C.input.length≤s.rd by omega)]
  rw[HG.out] at hg;subst hg
  go_quiet (fail)
  go_wp2;go_ret;exact⟨rfl,HM.out.below (below_drewN (AL) _),HF.out.trans (Fr.of_below (below_drewN (AL) _))⟩
theorem St.other{D Y Y':Nat→Prop}(h:St C Y ab mb nb fb w0 w s tv R)(hf:Fr D w w')(hD:∀q,D q→Y q∧¬MD mb nb fb tv q∧w0.heap.size≤q)(hY:∀q,Y' q→Y q∨(w.heap.size≤q∧q < w'.heap.size)):St C Y' ab mb nb fb w0 w' s tv R:=by
 obtain⟨c,Mc,hm,hc,hn⟩:=h.m.nodes;refine⟨⟨hf.at_ h.m.cell (fun e=>(hD _ e).2.1 (.inl rfl)),h.m.ar,⟨hf.os.trans h.m.bel.os,hf.tape.trans h.m.bel.tape,hf.output.trans h.m.bel.output,AC h.m.bel.size hf.size,fun i hi=>(hf.block i (AR hi h.m.bel.size) (fun e=>by have:=(hD _ e).2.2;omega)).trans (h.m.bel.block i hi)⟩,
  Am h.m.tr hf (fun q e e'=>(hD q e').2.1 (.inr (.inr (.inr e)))),⟨c,Mc,(hm.frr hf (fun e=>(hD _ e).2.1 (.inr (.inl rfl))) (fun q hz e=>hz.2.2.2 (hD q e).1)).imp (fun q hz=>⟨hz.1,hz.2.1,AR hz.2.2.1 hf.size,fun e=> ?_⟩),hc,hn⟩,h.m.lo,h.m.tm,h.m.fu,h.m.us,h.m.tl,h.m.il,fun q hq=> ?_,h.m.inp⟩,
  h.f.imp fun _ h2=>⟨h2.1.fr hf (fun e=>(hD _ e).2.1 (.inr (.inr (.inl rfl)))),h2.2⟩,h.ne,h.lo⟩
 ·rcases hY q e with e|e
  ·exact hz.2.2.2 e
  ·have:=hz.2.2.1;omega
 ·rcases hY q hq with e|e
  ·exact AR (h.m.xl q e) hf.size
  ·exact e.2
def LRes(C:QC)(X:Nat→Prop)(ab mb nb fb:Nat)(w0:World)(tv:Value)(V:FV)(m:Nat)(o:Option (List Int))(s':Fz)(w:World)(e:Ending)(w':World):Prop:=
 ∃v xs tv',e= .returned v∧xs.length=m∧(∀a,o=some a→xs=a)∧w'.ownsRow w.heap.size 2 1 v m (xs.map i64V)∧(∀q,v.ownBlock=some q→¬MD mb nb fb tv' q)∧St C X ab mb nb fb w0 w' s' tv' V∧Ay mb nb nb w tv w' tv'
theorem X7:(Tryz.prog.info? 2).map (fun i=>(i.zero,i.size,i.bytes))=some (some (.int .i64 0),1,8):=by kernel_rfl
def LRel(C:QC)(X:Nat→Prop)(ab mb nb fb:Nat)(w0:World)(tv:Value)(V:FV)(d:Nat)(ids:List Nat)(o:Option (List Int))(s':Fz)(w:World)(p q:Value)(wr:World):Prop:=
 ∃(k:Nat) (sk:Fz) (tvk:Value) (xs:List Int) (ok:Option (List Int)) (Y:Nat→Prop),q= .int .i64 (k:Int)∧k≤ids.length∧xs.length=k∧Out C.fuel C.input (seqT (fun k=>Ak C.nd d (.expr V k)) (ids.drop k)) sk ok s'∧(∀a,o=some a→∃rest,ok=some rest∧a=xs++rest)∧
   wr.ownsRow w.heap.size 2 1 p k (xs.map i64V)∧(∀q,p.ownBlock=some q→¬MD mb nb fb tvk q∧Y q)∧(∀q,X q→Y q)∧St C Y ab mb nb fb w0 wr sk tvk V∧Ay mb nb nb w tv wr tvk
theorem YS(d:Nat)(hE:FB C ab mb nb w0 d)(ids:List Nat)(v:Value)(hin:∀k∈ids,k∈C.ids)(hk:Keep mb w tv v ids.length (ids.map idV))(hl:ids.length≤1000000)(o:Option (List Int))(s':Fz)(hrd:s'.rd≤RB)
 (hrun:Out C.fuel C.input (seqT (fun k=>Ak C.nd d (.expr R k)) ids) s o s') (h:St C X ab mb nb fb w0 w s tv R):
 Calls Tryz.prog 171 #[.pointer (some ⟨mb,0,none⟩),v,.map (some fb)] w (LRes C X ab mb nb fb w0 tv R ids.length o s' w):=by
 obtain⟨i0,hi0,hz0,hz1,hz2⟩:=info_parts X7;obtain⟨a,c,rfl⟩:=hk.1.form;have HK:=zz hk;have HE:=zz hE;have HS:=zz h;have HIN:=zz hin;have HRD:=zz hrd;have HR:=zz hrun;clear hk hE h hin hrd hrun;go_enter Tryz.func171,Tryz.ntmps171;go_wp2
 go_loopw [7,12] (fun p q wr=>LRel C X ab mb nb fb w0 tv R d ids o s' w p q wr) (fun _ q wr=>ids.length-(intOf q).toNat)
 case atStart=>exact⟨0,s,tv,[],o,X,rfl,Nat.zero_le _,rfl,HR.out,fun a ha=>⟨a,ha,rfl⟩,World.ownsRow_nil _ _ _ _,(fun q e=>by cases e),fun q e=>e,HS.out,Ay.refl _ _ _ _ _⟩
 case round=>
  obtain⟨k,sk,tvk,xs,ok,Y,rfl,hk,hxl,hout,hrest,ho,hob,hXY,hst,hms⟩:=hrel;have HST:=zz hst;have HMS:=zz hms;have HO:=zz ho;have HOB:=zz hob;have HXY:=zz hXY;have HRE:=zz hrest;have HXL:=zz hxl;by_cases hlt:k < ids.length
  ·rw[Aw hlt] at hout
   obtain⟨o1,s1,k1,k2,o2,k3,k4⟩:=SE hout;have HK3:=zz (And.intro k3 k4);obtain⟨b,ob,rfl,hbl,e0⟩:=(HK.out.step hms HS.out.nobj HS.out.nobj).1.idAt (l:=ids) (k:=k) hlt;have T:=zz (HE.out Y fb ids[k] R sk s1 o1 tvk wr (HIN.out _ (List.getElem_mem hlt)) k1 (AC k2 HRD.out) hst);generalize ids[k]=x at e0 T;clear k1 k2 k3 k4 hout hrest ho hob hXY hst hms hxl;go_wp2_with fail;refine T.out.mono ?_;rintro e w1 ⟨y,tv1,rfl,hy,hS1,hs1⟩;have HO1:=zz (Am HO.out hs1.1 (fun q e e'=>(HOB.out q e).1 (MD.wid e')));have HFAR:=zz (show∀q,u7.ownBlock=some q→¬MD mb nb fb tv1 q from fun q e=>(Ay.wide hs1).far (HO.out.lt q e).2 (HOB.out q e).1);have HS1:=zz hS1;have HM1:=zz (HMS.out.trans hs1);have HY:=zz hy;have hz:=HM1.out.1.size;clear T hS1 hs1 hy
   go_wp2_with (at_builtin;refine wpList_append_own_at _ rfl (.tmp 16) (.tmp 21) _ rfl w.heap.size 2 i0 _ 1 8 Tryz.underlying22 hi0 hz0 hz1 hz2 rfl (by decide) _ k (xs.map i64V) rfl (HO1.out.alloc _) ⟨w1.heap.size,0,none⟩ 1 1 [i64V y] rfl rfl (Aq _ _ _) ?_ ?_ ?_ ?_ ?_)
   all_goals first
    |intro v3 W3 own3 g3 _ at3
    |(unfold maxLen;omega)
    |omega
    |(simp;omega)
    |(intro u hu;simp only[List.mem_singleton] at hu;subst hu;rfl)
   have hf3:Fr (fun q=>u7.ownBlock=some q) w1 W3:=(Fr.refl (fun q=>u7.ownBlock=some q) w1).alloc _|>.step g3 (fun q e=> .inl e)
   have h0:=HS.out.m.bel.size;have HNEW:=zz (show∀q,v3.ownBlock=some q→u7.ownBlock=some q∨(w1.heap.size≤q∧q < W3.heap.size) from fun q e=>by
    rcases at3 with h1|h1
    ·exact .inl (h1 ▸ e)
    ·have h2:=(own3.lt q e).2
     rw[h1] at e;injection e with e;exact .inr ⟨by omega,h2⟩)
   have HS3:=zz (HS1.out.other (Y':=fun q=>Y q∨v3.ownBlock=some q) hf3 (fun q e=>⟨(HOB.out q e).2,HFAR.out q e,by have:=(HO1.out.lt q e).1;omega⟩) (fun q e=>by
    rcases e with e|e
    ·exact .inl e
    ·rcases HNEW.out q e with e|e
     ·exact .inl (HOB.out q e).2
     ·exact .inr e))
   have HM3:=zz (show Ay mb nb nb w tv W3 tv1 from⟨HM1.out.1.Dw hf3 (fun q hq e=>by have:=(HO1.out.lt q e).1;omega),HM1.out.2⟩);have HO3:=zz (show W3.ownsRow w.heap.size 2 1 v3 (k+1) ((xs++[y]).map i64V) from by rw[List.map_append];exact own3);clear own3 g3 at3 hf3 h0;go_wp2;go_roundw
   case rel=>
    refine⟨k+1,s1,tv1,xs++[y],o2,fun q=>Y q∨v3.ownBlock=some q,by go_num,by omega,by simp[HXL.out],HK3.out.1,fun a ha=> ?_,HO3.out,fun q e=>⟨fun hm=> ?_,.inr e⟩,fun q e=> .inl (HXY.out q e),HS3.out,HM3.out⟩
    ·obtain⟨r1,e1,e2⟩:=HRE.out a ha
     obtain⟨r2,e3,e4⟩:=HK3.out.2 y HY.out r1 e1;exact⟨r2,e3,by rw[e2,e4];simp⟩
    ·rcases HNEW.out q e with e|e
     ·exact HFAR.out q e hm
     ·have:=HS1.out.md q hm;omega
   case measure=>simp[intOf];omega
  ·obtain rfl:k=ids.length:=by omega
   rw[List.drop_length] at hout;obtain⟨rfl,hnil⟩:=SF hout;have HN:=zz hnil;clear hout hnil hrest ho hob hXY hst hms hxl;go_wp2;go_ret;refine⟨_,xs,tvk,rfl,HXL.out,fun a ha=> ?_,HO.out,fun q e=>(HOB.out q e).1,HST.out.other (D:=fun _=>False) (Fr.refl _ _) (fun q e=>e.elim) (fun q e=> .inl (HXY.out q e)),HMS.out⟩;obtain⟨rest,e1,e2⟩:=HRE.out a ha;rw[e2,HN.out rest e1,List.append_nil]
end
open Hg (BM Io Qh)
section
variable {C:QC} {X:Nat→Prop} {ab mb nb fb n:Nat} {w0 w w':World} {s s':Fz} {tv tv':Value} {R:FV}
structure QOk (C:QC):Prop where
 lt:∀id∈C.ids,id < Ah
 kid:∀id∈C.ids,∀k∈(C.nd id).kids,k∈C.ids
 call:∀id∈C.ids,(C.nd id).kind=19→(C.nd id).ref∈C.ids
 ref:∀id∈C.ids,(C.nd id).ref < Ah
 len:∀id∈C.ids,(C.nd id).kids.length≤100000
 op:∀id∈C.ids,(C.nd id).kind=18→1≤(C.nd id).num∧(C.nd id).num≤13
def CRes(C:QC)(X:Nat→Prop)(ab mb nb:Nat)(w0:World)(tv:Value)(o:Option FO)(s':Fz)(w:World)(e:Ending)(w':World):Prop:=
 ∃x tv',e= .returned (i64V x)∧(∀a,o=some a→x=a.x)∧Mach C X ab mb nb w0 w' s' tv'∧Ay mb nb mb w tv w' tv'
def JN(C:QC)(ab mb nb:Nat)(w0:World)(d:Nat):Prop:=
 ∀(X:Nat→Prop) (f:Nat) (args:List Int) (av:Value) (s s':Fz) (o:Option FO) (tv:Value) (w:World),f∈C.ids→Out C.fuel C.input (Ak C.nd d (.call f args)) s o s'→s'.rd≤RB→Mach C X ab mb nb w0 w s tv→
   Sl w w.heap.size av args.length (args.map i64V)→(∀q,av.ownBlock=some q→¬MD mb nb mb tv q)→
   Calls Tryz.prog 21 #[.pointer (some ⟨mb,0,none⟩),.int .u64 (f:Int),av] w (CRes C X ab mb nb w0 tv o s' w)
theorem St.call(h:St C X ab mb nb fb w0 w s tv R)(hm:Mach C X ab mb nb w0 w' s' tv')(hs:Ay mb nb mb w tv w' tv')(hu:s.used≤s'.used):St C X ab mb nb fb w0 w' s' tv' R∧Ay mb nb nb w tv w' tv':=by
 obtain⟨n,hf,hn⟩:=h.f;obtain⟨es,ck,hfm⟩:=hf.obj;refine⟨⟨hm,⟨n,hf.fr hs.1 ?_,by omega⟩,h.ne,h.lo⟩,⟨hs.1.imp (fun q _ e=> ?_),hs.2⟩⟩
 ·rintro(e|e|e|e)
  ·exact h.fne e
  ·exact h.ne e
  ·exact h.fne e
  ·rcases Cs h.m.tr hfm with h1|h1
   ·rw[h1] at e;cases e
   ·exact h1 e
 ·rcases e with e|e|e|e
  ·exact .inl e
  ·exact .inr (.inl e)
  ·exact .inl e
  ·exact .inr (.inr (.inr e))
theorem N8(hQ:QOk C)(d:Nat)(X:Nat→Prop)(fb id:Nat)(R:FV)(s s':Fz)(o:Option FO)(tv:Value)(w:World)(hE:s.e=0→FB C ab mb nb w0 d)(hC:s.e=0→JN C ab mb nb w0 d)(hin:id∈C.ids)(hrun:Out C.fuel C.input (Ak C.nd (d+1) (.expr R id)) s o s')(hrd:s'.rd≤RB)(hS:St C X ab mb nb fb w0 w s tv R):
 Calls Tryz.prog 144 #[.pointer (some ⟨mb,0,none⟩),.int .u64 (id:Int),.map (some fb)] w (ERes C X ab mb nb fb w0 tv R o s' w):=by
 have T:=GQ hS.m id (hQ.lt id hin) hin;unfold Eu at T;have hrb:=hQ.ref id hin;have hkin:=hQ.kid id hin;have hcal:=hQ.call id hin;have hopn:=hQ.op id hin;have hlen:=hS.m.arOk.len id;rw[show Hg.ndAt C.M id=C.nd id from rfl] at hlen;have hrun:Out C.fuel C.input (BM C.nd (Ak C.nd d) (.expr R id)) s o s':=hrun;simp only[BM] at hrun;generalize C.nd id=nd at hrun T hrb hkin hcal hopn hlen;have HT:=zz T;have HS:=zz hS;have HIN:=zz hkin;have HRD:=zz hrd;have HOP:=zz hopn;have HCAL:=zz hcal;have HLEN:=zz hlen;have HRUN:=zz hrun;have HRB:=zz hrb;have HEE:=zz hE;have HCC:=zz hC;clear T hS hkin hrd hQ hin hopn hcal hlen hrun hrb hE hC;go_enter Tryz.func144,Tryz.ntmps144;go_wp2_with fail;refine HT.out.mono ?_;rintro e w1 ⟨ka,kc,rfl,hm1,hf1,hk1⟩;go_upto_region 2 with fail;have hbA:Below w1.heap.size w1 (w1.alloc (.cells #[.int .u8 (nd.kind:Int),strV nd.name,.int .i64 nd.num,.int .u8 (nd.type:Int),.int .u64 (nd.ref:Int),.slice ka nd.kids.length kc] 48)):=(AL).alloc AA _;have hnA:=AX w1 (.cells #[.int .u8 (nd.kind:Int),strV nd.name,.int .i64 nd.num,.int .u8 (nd.type:Int),.int .u64 (nd.ref:Int),.slice ka nd.kids.length kc] 48);have hfar:∀q,MD mb nb fb tv q→q < w1.heap.size:=fun q e=>(HS.out.node hm1 hf1).md q e;have HFAR:=zz (show¬MD mb nb nb tv w1.heap.size from fun e=>Nat.lt_irrefl _ (hfar _ (MD.wid e)));have hzA:(w1.alloc (.cells #[.int .u8 (nd.kind:Int),strV nd.name,.int .i64 nd.num,.int .u8 (nd.type:Int),.int .u64 (nd.ref:Int),.slice ka nd.kids.length kc] 48)).heap.size=w1.heap.size+1:=by simp
 generalize World.alloc w1 _=w2 at hbA hnA hzA⊢;obtain⟨z0,z1,z2,z3,z4,z5,-⟩:=CB nd ka kc hnA;have hS2:=(HS.out.node hm1 hf1).below hbA;have m4:=hS2.m.read.2.2.2.1;have HN2:=zz hnA;have HS2:=zz hS2;have HM2:=zz (show Ay mb nb nb w tv w2 tv from(Ay.ofN hf1).trans (Ay.of_below hbA));have HK2:=zz (hk1.below hbA);clear hm1 hf1 hk1 hbA hnA hS2 HT hfar;have hrun:=HRUN.out;clear HRUN;by_cases he:s.e=0
 ·have q4:((s.e:Int) !=0)=false:=by simp[he]
  have HE:=zz (HEE.out he);have HC:=zz (HCC.out he);clear HEE HCC;have HE0:=zz he;clear he;by_cases k13:nd.kind=13∨nd.kind=14
  ·rw[if_pos k13] at hrun
   obtain⟨rfl,rfl⟩:=hrun.ret HE0.out;clear hrun;rcases k13 with k|k
   ·have q:((nd.kind:Int)==13)=true:=by simp[k]
    clear k;go_wp2;go_ret;exact⟨_,tv,rfl,fun a ha=>by (injection ha with ha;subst ha;rfl),HS2.out,HM2.out⟩
   ·have q:((nd.kind:Int)==13)=false:=by simp[k]
    have q2:((nd.kind:Int)==14)=true:=by simp[k]
    clear k;go_wp2;go_ret;exact⟨_,tv,rfl,fun a ha=>by (injection ha with ha;subst ha;rfl),HS2.out,HM2.out⟩
  rw[if_neg k13] at hrun;have q13:((nd.kind:Int)==13)=false:=by rw[beq_eq_false_iff_ne];omega
  have q14:((nd.kind:Int)==14)=false:=by rw[beq_eq_false_iff_ne];omega
  by_cases k15:nd.kind=15
  ·rw[if_pos k15] at hrun
   obtain⟨rfl,rfl⟩:=hrun.ret HE0.out;have q15:((nd.kind:Int)==15)=true:=by simp[k15]
   clear hrun k13 k15;obtain⟨nn,hfr,-⟩:=HS2.out.f;have hlk:=hfr.look HRB.out;clear hfr;go_wp2;go_ret;exact⟨_,tv,rfl,fun a ha=>by (injection ha with ha;subst ha;rfl),HS2.out,HM2.out⟩
  rw[if_neg k15] at hrun;have q15:((nd.kind:Int)==15)=false:=by rw[beq_eq_false_iff_ne];omega
  by_cases k20:nd.kind=20
  ·rw[if_pos k20] at hrun
   have q20:((nd.kind:Int)==20)=true:=by simp[k20]
   have hrr:o=some ⟨C.input.getD s.rd 0,R⟩∧s'={s with rd:=s.rd+1}:=by
    rcases hrun with⟨_,hr⟩|⟨hn,_⟩
    ·injection hr with hr;injection hr with h1 h2;exact⟨h1.symm,h2.symm⟩
    ·exact absurd HE0.out hn
   obtain⟨rfl,rfl⟩:=hrr;have hrd2:s.rd < RB:=HRD.out;clear hrun k13 k15 k20;have TR:=zz (YL HS2.out.m hrd2);go_wp2_with fail;refine TR.out.mono ?_;rintro e w3 ⟨rfl,hM3,hF3⟩;have HS3:=zz (HS2.out.burn hM3 hF3 AA);have HM3:=zz (HM2.out.trans (Ay.ofM hF3));clear hM3 hF3 TR;go_wp2;go_ret;exact⟨_,tv,rfl,fun a ha=>by (injection ha with ha;subst ha;simp),HS3.out,HM3.out⟩
  rw[if_neg k20] at hrun;have q20:((nd.kind:Int)==20)=false:=by rw[beq_eq_false_iff_ne];omega
  by_cases k16:nd.kind=16
  ·rw[if_pos k16] at hrun
   have q16:((nd.kind:Int)==16)=true:=by simp[k16]
   by_cases hl:nd.kids.length=1
   ·rw[if_pos hl] at hrun
    clear k13 k15 k20 k16;obtain⟨o1,h1,h2⟩:=Io hrun;have H2:=zz h2;have HH1:=zz h1;have hl0:0 < nd.kids.length:=by omega
    have hin0:=HIN.out _ (Hg.Node.Dy hl0);have HI0:=zz hin0;have HL0:=zz hl0;clear hrun h1 h2 hin0 hl hl0;obtain⟨b,ob,rfl,hbl,e0⟩:=HK2.out.1.idAt (l:=nd.kids) (k:=0) HL0.out;rw[Nat.add_zero,show nd.kids[0]'HL0.out=nd.k 0 from by unfold Hg.Node.k;simp[List.getD,HL0.out]] at e0;have T1:=zz (HE.out X fb _ R s s' o1 tv w2 HI0.out HH1.out HRD.out HS2.out);generalize nd.k 0=i0 at e0 T1;go_wp2_with fail;refine T1.out.mono ?_;rintro e w3 ⟨x,tv1,rfl,hx,hS3,hs3⟩;have HS3:=zz hS3;have HM3:=zz (HM2.out.trans hs3);have HX:=zz hx;clear hx hS3 hs3 T1 z0 z1 z2 z3 z4 z5 e0 m4;go_wp2;go_ret;refine⟨_,tv1,rfl,fun a ha=> ?_,HS3.out,HM3.out⟩;obtain⟨b,e1,e2⟩:=H2.out a ha;rw[e2,HX.out b e1];exact(EQ _).symm
   ·rw[if_neg hl] at hrun
    rcases hrun with⟨_,hr⟩|⟨hn,_⟩
    ·cases hr
    ·exact absurd HE0.out hn
  rw[if_neg k16] at hrun;have q16:((nd.kind:Int)==16)=false:=by rw[beq_eq_false_iff_ne];omega
  by_cases k17:nd.kind=17
  ·rw[if_pos k17] at hrun
   have q17:((nd.kind:Int)==17)=true:=by simp[k17]
   by_cases hl:nd.kids.length=1
   ·rw[if_pos hl] at hrun
    clear k13 k15 k20 k16 k17;obtain⟨o1,h1,h2⟩:=Io hrun;have H2:=zz h2;have HH1:=zz h1;have hl0:0 < nd.kids.length:=by omega
    have hin0:=HIN.out _ (Hg.Node.Dy hl0);have HI0:=zz hin0;have HL0:=zz hl0;clear hrun h1 h2 hin0 hl hl0;obtain⟨b,ob,rfl,hbl,e0⟩:=HK2.out.1.idAt (l:=nd.kids) (k:=0) HL0.out;rw[Nat.add_zero,show nd.kids[0]'HL0.out=nd.k 0 from by unfold Hg.Node.k;simp[List.getD,HL0.out]] at e0;have T1:=zz (HE.out X fb _ R s s' o1 tv w2 HI0.out HH1.out HRD.out HS2.out);generalize nd.k 0=i0 at e0 T1;go_wp2_with fail;refine T1.out.mono ?_;rintro e w3 ⟨x,tv1,rfl,hx,hS3,hs3⟩;have HS3:=zz hS3;have HM3:=zz (HM2.out.trans hs3);have HX:=zz hx;clear hx hS3 hs3 T1 z0 z1 z2 z3 z4 z5 e0 m4;go_wp2;go_ret;refine⟨_,tv1,rfl,fun a ha=> ?_,HS3.out,HM3.out⟩;obtain⟨b,e1,e2⟩:=H2.out a ha;rw[e2,HX.out b e1];exact(EQ _).symm
   ·rw[if_neg hl] at hrun
    rcases hrun with⟨_,hr⟩|⟨hn,_⟩
    ·cases hr
    ·exact absurd HE0.out hn
  rw[if_neg k17] at hrun;have q17:((nd.kind:Int)==17)=false:=by rw[beq_eq_false_iff_ne];omega
  by_cases k19:nd.kind=19
  ·rw[if_pos k19] at hrun
   have q19:((nd.kind:Int)==19)=true:=by simp[k19]
   obtain⟨o1,s1,h1,hr1,h2⟩:=Qh hrun;have H1:=zz (And.intro h1 (And.intro hr1 h2));have HRF:=zz (HCAL.out k19);clear hrun k13 k15 k20 k16 k17 k19 h1 hr1 h2;have TL:=zz (YS d HE.out nd.kids (.slice ka nd.kids.length kc) HIN.out HK2.out HLEN.out o1 s1 (AC H1.out.2.1 HRD.out) H1.out.1 HS2.out);clear z1 z2 z3;go_wp2_with fail;refine TL.out.mono ?_;rintro e w3 ⟨v,xs,tv1,rfl,hxl,hxo,hov,hfv,hS3,hs3⟩;obtain⟨av,cv,rfl⟩:=(Sl.Aj hov).form;obtain⟨o2,h3,h4⟩:=H1.out.2.2 xs hxo;have hn3:=hs3.1.at_ HN2.out HFAR.out;obtain⟨-,-,-,-,y4,-,-⟩:=CB nd _ kc hn3;have hsl:=Sl.Aj hov;have HS3:=zz hS3;have HM3:=zz (HM2.out.trans hs3);have H4:=zz (And.intro h4 h3.used);have TC:=zz (HC.out X nd.ref xs (.slice av nd.kids.length cv) s1 s' o2 tv1 w3 HRF.out h3 HRD.out hS3.m (by rw[hxl];exact hsl) (fun q e hm=>hfv q e (by
    rcases hm with e|e|e|e
    ·exact .inl e
    ·exact .inr (.inl e)
    ·exact .inl e
    ·exact .inr (.inr (.inr e)))))
   clear hxl hxo hov hfv hS3 hs3 h3 h4 hn3 hsl TL z0 z4 z5 m4;go_wp2_with fail;refine TC.out.mono ?_;rintro e w4 ⟨x,tv2,rfl,hx,hm4,hs4⟩;obtain⟨hS4,hs4⟩:=HS3.out.call hm4 hs4 H4.out.2;have HS4:=zz hS4;have HM4:=zz (HM3.out.trans hs4);have HX:=zz hx;clear hS4 hs4 hm4 hx TC;go_wp2;go_ret;refine⟨x,tv2,rfl,fun a ha=> ?_,HS4.out,HM4.out⟩;obtain⟨b,e1,e2⟩:=H4.out.1 a ha;rw[e2];exact HX.out b e1
  rw[if_neg k19] at hrun;have q19:((nd.kind:Int)==19)=false:=by rw[beq_eq_false_iff_ne];omega
  by_cases k18:nd.kind=18∧nd.kids.length=2
  ·rw[if_pos k18] at hrun
   have hop:=HOP.out k18.1;have hl:=k18.2;have HP:=zz (And.intro hop (And.intro hl hrun));clear hrun k13 k15 k20 k16 k17 k18 k19 hop hl;have TP:=zz (YN d HE.out nd ka kc HS2.out HK2.out HP.out.2.1 HP.out.1 HIN.out o s' HRD.out HP.out.2.2);go_wp2_with fail;refine TP.out.mono ?_;rintro e w3 ⟨x,tv1,rfl,hx,hS3,hs3⟩;have HS3:=zz hS3;have HM3:=zz (HM2.out.trans hs3);have HX:=zz hx;clear hx hS3 hs3 TP;go_wp2;go_ret;exact⟨x,tv1,rfl,HX.out,HS3.out,HM3.out⟩
  ·rw[if_neg k18] at hrun
   rcases hrun with⟨_,hr⟩|⟨hn,_⟩
   ·cases hr
   ·exact absurd HE0.out hn
 ·obtain⟨rfl,rfl⟩:=hrun.ended he
  have q4:((s'.e:Int) !=0)=true:=by simpa using he
  clear hrun he;go_wp2;go_ret;exact⟨_,tv,rfl,fun a ha=>by (cases ha),HS2.out,HM2.out⟩
theorem Ri(hQ:QOk C)(d:Nat)(hE:FB C ab mb nb w0 d)(hC:JN C ab mb nb w0 d):FB C ab mb nb w0 (d+1):=
 fun X fb id R s s' o tv w hin hrun hrd hS=>N8 hQ d X fb id R s s' o tv w (fun _=>hE) (fun _=>hC) hin hrun hrd hS
theorem Xv(hQ:QOk C):FB C ab mb nb w0 0:=fun X fb id R s s' o tv w hin hrun hrd hS=>by
 have he:s.e≠0:=fun e=>by
  rcases hrun with⟨_,hr⟩|⟨hn,_⟩
  ·cases hr
  ·exact hn e
 exact N8 hQ 0 X fb id R s s' o tv w (fun e=>absurd e he) (fun e=>absurd e he) hin (.inr ⟨he,hrun.ended he⟩) hrd hS
end
section
variable {C:QC} {X:Nat→Prop} {ab mb nb fb n:Nat} {w0 w w':World} {s s':Fz} {tv tv':Value} {R:FV}
theorem St.set(h:St C X ab mb nb fb w0 w s tv R)(k:Nat)(x:Int)(hk:k < Ah)(hb:∃n,FrAt w fb n R∧n < 100000+s.used):
 ∃w',(Instr.mapUpdate 111 (.map (some fb)) (.int .u64 (k:Int)) (i64V x)).run Tryz.prog w= .ok () w'∧St C X ab mb nb fb w0 w' s tv (R.set k x)∧Ay mb nb fb w tv w' tv:=by
 obtain⟨n,hfn,hnb⟩:=hb;have hus:=h.m.us;obtain⟨w',hrun,hf',hg⟩:=hfn.put x hk (by omega);obtain⟨es,ck,hm⟩:=hfn.obj;have hf:Fr (fun q=>q=fb) w w':=Fr.Y1 hg (fun q e=>by injection e with e;exact e.symm);obtain⟨c,Mc,hn,hcc,hnn⟩:=h.m.nodes;have hne:=h.fne;refine⟨w',hrun,⟨⟨hf.at_ h.m.cell (fun e=>hne e.symm),h.m.ar,⟨hf.os.trans h.m.bel.os,hf.tape.trans h.m.bel.tape,hf.output.trans h.m.bel.output,AC h.m.bel.size hf.size,fun i hi=>(hf.block i (AR hi h.m.bel.size) (fun e=>by have:=h.lo;omega)).trans (h.m.bel.block i hi)⟩,Am h.m.tr hf (fun q e e'=> ?_),⟨c,Mc,(hn.other hm hg (fun e=>h.ne e.symm)).imp (fun q hz=>⟨hz.1,hz.2.1,AR hz.2.2.1 hf.size,hz.2.2.2⟩),hcc,hnn⟩,h.m.lo,h.m.tm,h.m.fu,h.m.us,h.m.tl,h.m.il,fun q hq=>AR (h.m.xl q hq) hf.size,h.m.inp⟩,⟨_,hf',hnb⟩,h.ne,h.lo⟩,⟨hf.imp (fun q _ e=> .inr (.inr (.inl e))),fun q e=> .inl e⟩⟩;subst e';rcases Cs h.m.tr hm with h1|h1
 ·rw[h1] at e;cases e
 ·exact h1 e
theorem St.tell(h:St C X ab mb nb fb w0 w s tv R)(o:Obj)(x:Int){v4:Value}{w4:World}(ho:w4.ownsRow w0.heap.size 2 1 v4 (s.trace.length+1) (s.trace.map i64V++[i64V x]))(hg:(w.alloc o).grownBy w4 tv.ownBlock)(hat:v4.ownBlock=tv.ownBlock∨v4.ownBlock=some (w.alloc o).heap.size)(htl:s.trace.length < s.used):
 St C X ab mb nb fb w0 (w4.setCell ⟨mb,6,none⟩ v4) {s with trace:=s.trace++[x]} v4 R∧Ay mb nb fb w tv (w4.setCell ⟨mb,6,none⟩ v4) v4:=by
 have hf:Fr (fun q=>tv.ownBlock=some q) w w4:=(Fr.refl (fun q=>tv.ownBlock=some q) w).alloc o|>.step hg (fun q e=> .inl e)
 have hf2:Fr (fun q=>tv.ownBlock=some q∨q=mb) w (w4.setCell ⟨mb,6,none⟩ v4):=(hf.imp (D':=fun q=>tv.ownBlock=some q∨q=mb) (fun q _ e=> .inl e)).set (.inl (.inr rfl)) _;have hown:∀q,v4.ownBlock=some q→tv.ownBlock=some q∨w.heap.size≤q:=fun q e=>by
  rcases hat with h1|h1
  ·exact .inl (h1 ▸ e)
  ·rw[h1] at e;injection e with e;exact .inr (by rw[←e];simp)
 have hne:=h.fne;obtain⟨c,Mc,hn,hcc,hnn⟩:=h.m.nodes;obtain⟨es,ck,hnm⟩:=h.m.nobj;obtain⟨nf,hff,hnf⟩:=h.f;obtain⟨es2,ck2,hfm⟩:=hff.obj;have hmap:∀m es ck,w.heap[m]? =some (.map es ck)→tv.ownBlock≠some m:=fun m es ck hm e=>by
  rcases Cs h.m.tr hm with h1|h1
  ·rw[h1] at e;cases e
  ·exact h1 e
 have hmbl:=h.m.lt;have hvm:v4.ownBlock≠some mb:=fun e=>by
  rcases hown mb e with e|e
  ·exact h.m.tm e
  ·omega
 refine⟨⟨⟨heap_setCell_same (i:=6) (hf.at_ h.m.cell h.m.tm) v4,h.m.ar,⟨hf2.os.trans h.m.bel.os,hf2.tape.trans h.m.bel.tape,hf2.output.trans h.m.bel.output,AC h.m.bel.size hf2.size,fun i hi=>(hf2.block i (AR hi h.m.bel.size) ?_).trans (h.m.bel.block i hi)⟩, ?_,⟨c,Mc,(hn.frr hf2 ?_ ?_).imp ?_,hcc,hnn⟩,h.m.lo,hvm,h.m.fu,h.m.us,by simp;omega,h.m.il,fun q hq=>AR (h.m.xl q hq) hf2.size,h.m.inp⟩,⟨nf,hff.fr hf2 ?_,hnf⟩,h.ne,h.lo⟩,⟨hf2.imp (fun q _ e=>by rcases e with e|e;exact .inr (.inr (.inr e));exact .inl e),hown⟩⟩
 ·rintro(e|e)
  ·have:=(h.m.tr.lt i e).1;omega
  ·have:=h.m.lo.1;omega
 ·have:=Am ho ((Fr.refl (fun q=>q=mb) w4).set (p:=⟨mb,6,none⟩) (.inl rfl) v4) (fun q e e'=>hvm (e' ▸ e))
  simpa using this
 ·rintro(e|e)
  ·exact hmap nb es ck hnm e
  ·exact h.m.ne e
 ·rintro q hz (e|e)
  ·exact hz.2.1 e
  ·exact hz.1 e
 ·intro q hz
  refine⟨hz.1,fun e=> ?_,AR hz.2.2.1 hf2.size,hz.2.2.2⟩;rcases hown q e with e|e
  ·exact hz.2.1 e
  ·have:=hz.2.2.1;omega
 ·rintro(e|e)
  ·exact hmap fb es2 ck2 hfm e
  ·exact hne e
end
open Hg (seqU SB SC)
section
variable {C:QC} {X:Nat→Prop} {ab mb nb fb n:Nat} {w0 w w':World} {s s':Fz} {tv tv':Value} {R:FV}
def SRes(C:QC)(X:Nat→Prop)(ab mb nb fb:Nat)(w0:World)(tv:Value)(o:Option FO)(s':Fz)(w:World)(e:Ending)(w':World):Prop:=
 ∃x tv' R',e= .returned (i64V x)∧(∀a,o=some a→x=a.x∧R'=a.V)∧St C X ab mb nb fb w0 w' s' tv' R'∧Ay mb nb fb w tv w' tv'
def LX(C:QC)(ab mb nb:Nat)(w0:World)(d:Nat):Prop:=
 ∀(X:Nat→Prop) (fb id:Nat) (V:FV) (s s':Fz) (o:Option FO) (tv:Value) (w:World),id∈C.ids→s.e=0→Out C.fuel C.input (Ak C.nd d (.stmt id V)) s o s'→s'.rd≤RB→St C X ab mb nb fb w0 w s tv V→
   Calls Tryz.prog 101 #[.pointer (some ⟨mb,0,none⟩),.int .u64 (id:Int),.map (some fb)] w (SRes C X ab mb nb fb w0 tv o s' w)
def Fp(C:QC)(ab mb nb:Nat)(w0:World)(d:Nat):Prop:=
 ∀(X:Nat→Prop) (fb id:Nat) (V:FV) (s s':Fz) (o:Option FO) (tv:Value) (w:World),id∈C.ids→Out C.fuel C.input (Ak C.nd d (.block id V)) s o s'→s'.rd≤RB→St C X ab mb nb fb w0 w s tv V→
   Calls Tryz.prog 53 #[.pointer (some ⟨mb,0,none⟩),.int .u64 (id:Int),.map (some fb)] w (SRes C X ab mb nb fb w0 tv o s' w)
theorem SK(n:Hg.Node)(ka:Option Addr)(kc:Nat)(W:World):(Instr.field 48 (ndV n ka kc) 5).run Tryz.prog W= .ok (.slice ka n.kids.length kc) W:=by kernel_rfl
def BRel(C:QC)(X:Nat→Prop)(ab mb nb fb:Nat)(w0:World)(tv:Value)(d:Nat)(kids:List Nat)(o:Option FO)(s':Fz)(w1:World)(p q:Value)(wr:World):Prop:=
 ∃(i:Nat) (x:Int) (V:FV) (sk:Fz) (tvk:Value),p=i64V x∧q= .int .i64 (i:Int)∧i≤kids.length∧Out C.fuel C.input (seqU (fun i V=>Ak C.nd d (.stmt i V)) (kids.drop i) x V) sk o s'∧St C X ab mb nb fb w0 wr sk tvk V∧Ay mb nb fb w1 tv wr tvk
theorem LU(hQ:QOk C)(d:Nat)(hSt:LX C ab mb nb w0 d):Fp C ab mb nb w0 (d+1):=by
 intro X fb id R s s' o tv w hin hrun hrd hS;have T:=GQ hS.m id (hQ.lt id hin) hin;unfold Eu at T;have hkin:=hQ.kid id hin;have hlen:=hS.m.arOk.len id;rw[show Hg.ndAt C.M id=C.nd id from rfl] at hlen;have hrun:Out C.fuel C.input (BM C.nd (Ak C.nd d) (.block id R)) s o s':=hrun;simp only[BM] at hrun;generalize C.nd id=nd at hrun T hkin hlen;have HT:=zz T;have HS:=zz hS;have HST:=zz hSt;have HIN:=zz hkin;have HRD:=zz hrd;have HR:=zz hrun;clear T hS hSt hkin hrd hQ hin hrun;go_enter Tryz.func53,Tryz.ntmps53;go_wp2_with fail;refine HT.out.mono ?_;rintro e w1 ⟨ka,kc,rfl,hm1,hf1,hk1⟩;have HS1:=zz (HS.out.node hm1 hf1);have HM1:=zz (show Ay mb nb fb w tv w1 tv from Ay.ofN hf1);have HK1:=zz hk1;clear hm1 hf1 hk1 HT;have hfld:=SK nd ka kc w1;go_wp2;clear hfld
 go_loopw [7,15] (fun p q wr=>BRel C X ab mb nb fb w0 tv d nd.kids o s' w1 p q wr) (fun _ q wr=>nd.kids.length-(intOf q).toNat)
 case atStart=>exact⟨0,0,R,s,tv,rfl,rfl,Nat.zero_le _,HR.out,HS1.out,Ay.refl _ _ _ _ _⟩
 case round=>
  obtain⟨i,x,V,sk,tvk,rfl,rfl,hi,hout,hst,hms⟩:=hrel;have m4:=hst.m.read.2.2.2.1;have HSK:=zz hst;have HMK:=zz hms;by_cases hlt:i < nd.kids.length
  ·rw[Aw hlt] at hout
   obtain⟨b,ob,rfl,hbl,e0⟩:=(HK1.out.step hms HS1.out.nobj HS1.out.fobj).1.idAt (l:=nd.kids) (k:=i) hlt;by_cases he:sk.e=0
   ·have q4:((sk.e:Int) !=0)=false:=by simp[he]
    obtain⟨o1,s1,k1,k2,k3⟩:=SB hout;have HK3:=zz k3;have T:=zz (HST.out X fb nd.kids[i] V sk s1 o1 tvk wr (HIN.out _ (List.getElem_mem hlt)) he k1 (AC k2 HRD.out) hst);generalize nd.kids[i]=kd at e0 T;clear k1 k2 k3 hout hst hms he;go_wp2_with fail;refine T.out.mono ?_;rintro e w3 ⟨y,tv3,V3,rfl,hy,hS3,hs3⟩;have HS3:=zz hS3;have HM3:=zz (HMK.out.trans hs3);have HO3:=zz (HK3.out y V3 hy);clear hS3 hs3 hy T m4;go_wp2;go_roundw
    case rel=>exact⟨i+1,y,V3,s1,tv3,rfl,by go_num,by omega,HO3.out,HS3.out,HM3.out⟩
    case measure=>simp[intOf];omega
   ·have q4:((sk.e:Int) !=0)=true:=by simpa using he
    obtain⟨rfl,rfl⟩:=hout.ended he;generalize nd.kids[i]=kd at e0;clear hout hst hms he;go_wp2;go_ret;exact⟨0,tvk,V,rfl,fun a ha=>by (cases ha),HSK.out,HM1.out.trans HMK.out⟩
  ·obtain rfl:i=nd.kids.length:=by omega
   rw[List.drop_length] at hout;obtain⟨rfl,hnil⟩:=SC hout;have HN:=zz hnil;clear hout hnil hst hms;go_wp2;go_ret;exact⟨x,tvk,V,rfl,HN.out,HSK.out,HM1.out.trans HMK.out⟩
end
open Hg (QH)
section
variable {C:QC} {X:Nat→Prop} {ab mb nb fb n:Nat} {w0 w w':World} {s s':Fz} {tv tv':Value} {R:FV}
def LpR(C:QC)(X:Nat→Prop)(ab mb nb fb:Nat)(w0:World)(tv:Value)(c b:Nat)(o:Option FO)(s':Fz)(d:Nat)(w1:World)(k:Nat)(wr:World):Prop:=
 ∃(R:FV) (s:Fz) (tv1:Value),k≤d∧Out C.fuel C.input (Ak C.nd k (.loop c b R)) s o s'∧St C X ab mb nb fb w0 wr s tv1 R∧Ay mb nb fb w1 tv wr tv1
theorem QC.O0(C:QC){s:Fz}(he:s.e=0)(hf:¬C.fuel≤s.used):C.burn s=(true,{s with used:=s.used+1}):=by
 unfold QC.burn;rw[if_pos he,if_neg hf]
theorem QC.M9(C:QC){s:Fz}(he:s.e=0)(hf:C.fuel≤s.used):C.burn s=(false,{s with e:=2}):=by
 unfold QC.burn;rw[if_pos he,if_pos hf]
theorem QC.Qj(C:QC){s:Fz}(he:s.e≠0):C.burn s=(false,s):=by
 unfold QC.burn;rw[if_neg he]
theorem St.keepN{bn:Nat}{w2:World}(nd:Hg.Node)(ka:Option Addr)(kc:Nat)(hb:∀q,MD mb nb fb tv q→bn≠q)(hn:w2.heap[bn]? =some (.cells #[.int .u8 (nd.kind:Int),strV nd.name,.int .i64 nd.num,.int .u8 (nd.type:Int),.int .u64 (nd.ref:Int),.slice ka nd.kids.length kc] 48 (0,0)))(hs:Ay mb nb fb w2 tv w' tv'):
 w'.heap[bn]? =some (.cells #[.int .u8 (nd.kind:Int),strV nd.name,.int .i64 nd.num,.int .u8 (nd.type:Int),.int .u64 (nd.ref:Int),.slice ka nd.kids.length kc] 48 (0,0)):=hs.1.at_ hn (fun e=>hb _ e rfl)
theorem XE(hQ:QOk C)(d:Nat)(hE:∀k,k < d→FB C ab mb nb w0 k)(hB:∀k,k < d→Fp C ab mb nb w0 k)(id:Nat)(o:Option FO)(hin:id∈C.ids)(hS:St C X ab mb nb fb w0 w s tv R)(hrd:s'.rd≤RB)
 (hk9:(C.nd id).kind=9) (hl2:(C.nd id).kids.length=2) (h:Out C.fuel C.input (Ak C.nd d (.loop ((C.nd id).k 0) ((C.nd id).k 1) R)) s o s'):
 Calls Tryz.prog 101 #[.pointer (some ⟨mb,0,none⟩),.int .u64 (id:Int),.map (some fb)] w (SRes C X ab mb nb fb w0 tv o s' w):=by
 have T:=GQ hS.m id (hQ.lt id hin) hin;unfold Eu at T;have hkin:=hQ.kid id hin;unfold Hg.Node.k at h;generalize C.nd id=nd at h T hk9 hl2 hkin;have h0l:0 < nd.kids.length:=by omega
 have h1l:1 < nd.kids.length:=by omega
 have hk0:nd.kids[0]=nd.kids.getD 0 0:=by simp[List.getD,h0l]
 have hk1:nd.kids[1]=nd.kids.getD 1 0:=by simp[List.getD,h1l]
 have hi0:=hkin _ (List.getElem_mem h0l);have hi1:=hkin _ (List.getElem_mem h1l);rw[hk0] at hi0;rw[hk1] at hi1;generalize nd.kids.getD 0 0=i0 at hk0 h hi0;generalize nd.kids.getD 1 0=i1 at hk1 h hi1;have HT:=zz T;have HS:=zz hS;have HB:=zz hB;have HE:=zz hE;have HC:=zz h;have HRD:=zz hrd;have HI:=zz (And.intro hi0 hi1);have HK01:=zz (And.intro hk0 hk1);have q:((nd.kind:Int)==9)=true:=by simp[hk9]
 clear T hB hE hS h hk9 hk0 hk1 hl2 hrd hi0 hi1 hkin hQ hin;go_enter Tryz.func101,Tryz.ntmps101;go_wp2_with fail;refine HT.out.mono ?_;rintro e w1 ⟨ka,kc,rfl,hm1,hf1,hk1⟩;go_upto_region 2 with fail;have hbA:Below w1.heap.size w1 (w1.alloc (.cells #[.int .u8 (nd.kind:Int),strV nd.name,.int .i64 nd.num,.int .u8 (nd.type:Int),.int .u64 (nd.ref:Int),.slice ka nd.kids.length kc] 48)):=(AL).alloc AA _;have hnA:=AX w1 (.cells #[.int .u8 (nd.kind:Int),strV nd.name,.int .i64 nd.num,.int .u8 (nd.type:Int),.int .u64 (nd.ref:Int),.slice ka nd.kids.length kc] 48);generalize World.alloc w1 _=w2 at hbA hnA⊢;have hS1:=HS.out.node hm1 hf1;have hS2:=hS1.below hbA;have HMD:=zz hS1.md;have HS2:=zz hS2;have HM2:=zz (show Ay mb nb fb w tv w2 tv from(Ay.ofN hf1).trans (Ay.of_below hbA));have HK2:=zz (hk1.below hbA);have HN2:=zz hnA;have hnl2:=(Ab.1 hnA).1;obtain⟨z0,z1,z2,z3,z4,z5,-⟩:=CB nd ka kc hnA;generalize hbn:w1.heap.size=bn at HMD HN2 hnl2 z0 z1 z2 z3 z4 z5⊢;have hbnl:∀q,MD mb nb fb tv q→bn≠q:=fun q h e=>by have:=HMD.out q h;omega
 have HBN:=zz hbnl;clear hm1 hf1 hk1 hbA hnA hS1 hS2 HT hbnl hbn;go_wp2
 go_loopg [] d (fun k wr=>LpR C X ab mb nb fb w0 tv i0 i1 o s' d w2 k wr)
 case atStart=>exact⟨R,s,tv,AA,HC.out,HS2.out,Ay.refl _ _ _ _ _⟩
 case round=>
  obtain⟨R2,s2,tv2,hk,hst,hS2,hs2⟩:=hrel;have TB:=NA hS2.m;unfold KW at TB;have HM2r:=zz hs2;have HSr:=zz hS2;have hlt2:=hs2.1.size;have HG:=zz hk;have hcases:=QH hst;have hoff:((C.burn s2).1=false∧o=none∧s'=(C.burn s2).2∧s2.used≤s'.used)∨¬(s2.e≠0)∧¬C.fuel≤s2.used:=by
   rcases hcases with⟨h1,h2,h3⟩|⟨h1,h2,h3,h4⟩|⟨h1,h2,-⟩
   ·rw[C.Qj h1];exact .inl ⟨rfl,h2,h3,by rw[h3];exact AA⟩
   ·rw[C.M9 h1 h2];exact .inl ⟨rfl,h3,h4,by rw[h4];exact AA⟩
   ·exact .inr ⟨fun h=>h h1,h2⟩
  rcases hoff with⟨g1,rfl,g3,g4⟩|⟨g1,g2⟩
  ·rw[g1,←g3] at TB
   have TB:=zz TB;have HU:=zz g4;clear hs2 hS2 HC z0 z1 z2 z3 z4 z5 g1 g3 g4 hcases hst hk;go_wp2_with fail;refine TB.out.mono ?_;rintro e w3 ⟨rfl,hm3,hf3⟩;have HS3:=zz (HSr.out.burn hm3 hf3 HU.out);have HM3:=zz (HM2.out.trans (HM2r.out.trans (Ay.ofM hf3)));clear hm3 hf3 TB;go_wp2;go_ret;exact⟨0,tv2,R2,rfl,fun a ha=>by (cases ha),HS3.out,HM3.out⟩
  ·have he2:s2.e=0:=Classical.byContradiction g1
   rcases hcases with⟨h1,-⟩|⟨-,h2,-⟩|⟨-,-,k,rfl,o1,s1,k1,k2,k3,k4⟩
   ·exact absurd he2 h1
   ·exact absurd h2 g2
   rw[C.O0 he2 g2] at TB;have TB:=zz TB;have HK1:=zz k1;have HK3:=zz k3;have HK4:=zz k4;have HR1:=zz (AC k2 HRD.out);clear hs2 hS2 HC hst k1 k2 k3 k4 g1 g2 he2 hk;go_wp2_with fail;refine TB.out.mono ?_;rintro e w3 ⟨rfl,hm3,hf3⟩;have hS3:=HSr.out.burn hm3 hf3 (Nat.le_succ _);have hM3:=HM2r.out.trans (Ay.ofM hf3);have HM3:=zz hM3;have T4:=zz (HE.out k (by have:=HG.out;omega) X fb i0 R2 _ s1 o1 tv2 w3 HI.out.1 HK1.out HR1.out hS3);have HS3:=zz hS3;obtain⟨b,o',rfl,hbl,e0⟩:=(HK2.out.step hM3 HS2.out.nobj HS2.out.fobj).1.idAt (l:=nd.kids) (k:=0) h0l;rw[HK01.out.1,Nat.add_zero] at e0;have hn3:=St.keepN nd _ kc HBN.out HN2.out hM3;obtain⟨-,-,-,-,-,y5,-⟩:=CB nd _ kc hn3;clear hm3 hf3 hS3 hM3 TB hn3 z0 z1 z2 z3 z4 z5;go_wp2_with fail;refine T4.out.mono ?_;rintro e w4 ⟨y,tv4,rfl,hy4,hS4,hs4⟩;have HS4:=zz hS4;have hM4:=HM3.out.trans (Ay.wide hs4);have HM4:=zz hM4;have HY4:=zz hy4;have hn4:=St.keepN nd _ kc HBN.out HN2.out hM4;obtain⟨-,-,-,-,-,x5,-⟩:=CB nd _ kc hn4;have m4:=hS4.m.read.2.2.2.1;obtain⟨b',o2,hbo,hbl1,e1⟩:=(HK2.out.step hM4 HS2.out.nobj HS2.out.fobj).1.idAt (l:=nd.kids) (k:=1) h1l;rw[HK01.out.2] at e1;injection hbo with hbo;injection hbo with hb1 hb2;subst hb1;subst hb2;by_cases he1:s1.e=0
   ·have q4:((s1.e:Int)==0)=true:=by simp[he1]
    obtain⟨a,rfl,k5,k6⟩:=HK4.out he1;obtain rfl:=HY4.out a rfl;have HK5:=zz k5;have HK6:=zz k6;clear k5 k6 hy4;by_cases hy:a.x=0
    ·obtain⟨rfl,rfl⟩:=HK5.out hy
     have q5:(a.x !=0)=false:=by simp[hy]
     clear hS4 hs4 hM4 T4 hn4 y5 e0 hy he1;go_wp2;go_ret;exact⟨0,tv4,R2,rfl,fun a ha=>by (injection ha with ha;subst ha;exact⟨rfl,rfl⟩),HS4.out,HM2.out.trans HM4.out⟩
    ·obtain⟨o2,s5,m1,m2,m3⟩:=HK6.out hy
     have HM3':=zz m3;have T5:=zz (HB.out k (by have:=HG.out;omega) X fb i1 R2 s1 s5 o2 tv4 w4 HI.out.2 m1 (AC m2 HRD.out) hS4);have q5:(a.x !=0)=true:=by simp[hy]
     clear hS4 hs4 hM4 T4 hn4 y5 e0 hy he1 m1 m2 m3;go_wp2_with fail;refine T5.out.mono ?_;rintro e w5 ⟨y,tv5,R5,rfl,hy5,hS5,hs5⟩;have HS5:=zz hS5;have HM5:=zz (HM4.out.trans hs5);have HO5:=zz (HM3'.out R5 (fun q hq=>(hy5 q hq).2));clear hS5 hs5 T5 x5 e1 m4 hy5;go_wp2
     go_roundg k
     case measure=>omega
     case rel=>exact⟨R5,s5,tv5,by have:=HG.out;omega,HO5.out,HS5.out,HM5.out⟩
   ·have q4:((s1.e:Int)==0)=false:=by simpa using he1
    obtain⟨rfl,rfl⟩:=HK3.out he1;clear hS4 hs4 hM4 T4 hn4 y5 e0 he1 hy4;by_cases hy:y=0
    ·have q5:(y !=0)=false:=by simp[hy]
     clear hy;go_wp2;go_ret;exact⟨0,tv4,R2,rfl,fun a ha=>by (cases ha),HS4.out,HM2.out.trans HM4.out⟩
    ·have q5:(y !=0)=true:=by simp[hy]
     clear hy;go_wp2;go_ret;exact⟨0,tv4,R2,rfl,fun a ha=>by (cases ha),HS4.out,HM2.out.trans HM4.out⟩
end
open Hg (Mx)
variable {C:QC} {X:Nat→Prop} {ab mb nb fb n:Nat} {w0 w w':World} {s s':Fz} {tv tv':Value} {R:FV}
theorem YE(hQ:QOk C)(d:Nat)(hE:∀k,k < d+1→FB C ab mb nb w0 k)(hB:∀k,k < d+1→Fp C ab mb nb w0 k):LX C ab mb nb w0 (d+1):=by
 intro X fb id R s s' o tv w hin he hrun hrd hS;by_cases k9:(C.nd id).kind=9
 ·obtain⟨h2,h⟩:=Hg.Tj he k9 hrun
  exact XE hQ d (fun k hk=>hE k (by omega)) (fun k hk=>hB k (by omega)) id o hin hS hrd k9 h2 h
 have hcs:=Hg.VV he k9 hrun;have T:=GQ hS.m id (hQ.lt id hin) hin;unfold Eu at T;have TB:=fun(w2:World) (hm:Mach C X ab mb nb w0 w2 s tv)=>NA hm;unfold KW at TB;have hrb:=hQ.ref id hin;have hidl:=hQ.lt id hin;have hkin:=hQ.kid id hin;generalize hnd:C.nd id=nd at hcs T hrb k9 hkin;clear hnd;unfold Hg.Node.k at hcs;generalize hi:nd.kids.getD 0 0=i0 at hcs;have HT:=zz T;have HS:=zz hS;have HRB:=zz hrb;have HIDL:=zz hidl;have HKIN:=zz hkin;have HRD:=zz hrd;have HB:=zz (hB d (by omega));have HE:=zz (hE d (by omega));have q9:((nd.kind:Int)==9)=false:=by rw[beq_eq_false_iff_ne];omega
 have HCS:=zz hcs;have HK9:=zz k9;have HHE:=zz he;have HHI:=zz hi;have TB0:=zz TB;clear T TB hE hB hS k9 hkin hrun hrd hQ hin he hrb hidl hi hcs;go_enter Tryz.func101,Tryz.ntmps101;go_wp2_with fail;refine HT.out.mono ?_;rintro e w1 ⟨ka,kc,rfl,hm1,hf1,hk1⟩;go_upto_region 2 with fail;have hbA:Below w1.heap.size w1 (w1.alloc (.cells #[.int .u8 (nd.kind:Int),strV nd.name,.int .i64 nd.num,.int .u8 (nd.type:Int),.int .u64 (nd.ref:Int),.slice ka nd.kids.length kc] 48)):=(AL).alloc AA _;have hnA:=AX w1 (.cells #[.int .u8 (nd.kind:Int),strV nd.name,.int .i64 nd.num,.int .u8 (nd.type:Int),.int .u64 (nd.ref:Int),.slice ka nd.kids.length kc] 48);generalize World.alloc w1 _=w2 at hbA hnA⊢;have hS1:=HS.out.node hm1 hf1;have hS2:=hS1.below hbA;have HMD:=zz hS1.md;have HS2:=zz hS2;have HM2:=zz (show Ay mb nb fb w tv w2 tv from(Ay.ofN hf1).trans (Ay.of_below hbA));have HK2:=zz (hk1.below hbA);have HN2:=zz hnA;have hnl2:=(Ab.1 hnA).1;obtain⟨z0,z1,z2,z3,z4,z5,-⟩:=CB nd ka kc hnA;generalize hbn:w1.heap.size=bn at HMD HN2 hnl2 z0 z1 z2 z3 z4 z5⊢;have hbnl:∀q,MD mb nb fb tv q→bn≠q:=fun q h e=>by have:=HMD.out q h;omega
 have HBN:=zz hbnl;clear hm1 hf1 hk1 hbA hnA hS1 hS2 HT hbnl hbn;have TB:=TB0.out;rcases HCS.out with⟨hf,rfl,rfl⟩|⟨hf,hne,o1,s1,h1,h2,h3,h4⟩
 ·rw[C.M9 HHE.out hf] at TB
  have TB:=zz TB;clear TB0 HCS hf;go_wp2_with fail;refine(TB.out _ HS2.out.m).mono ?_;rintro e w3 ⟨rfl,hm3,hf3⟩;have HS3:=zz (HS2.out.burn hm3 hf3 AA);have HM3:=zz (HM2.out.trans (Ay.ofM hf3));clear hm3 hf3 TB z0 z1 z2 z3 z4 z5;go_wp2;go_ret;exact⟨0,tv,R,rfl,fun a ha=>by (cases ha),HS3.out,HM3.out⟩
 rw[C.O0 HHE.out hf] at TB;have TB:=zz TB;have h0l:0 < nd.kids.length:=List.length_pos_iff.2 hne;have hk0:nd.kids[0]=i0:=by rw[←HHI.out];simp[List.getD,h0l]
 have hi0:=HKIN.out _ (List.getElem_mem h0l);rw[hk0] at hi0;have HNET:=zz (show s1.trace.length < s1.used from by
  have htl:=HS.out.m.tl;rcases h1 with⟨_,hr⟩|⟨hn,_⟩
  ·have:=Hg.NW _ _ _ _ _ _ _ hr
   dsimp only at this;omega
  ·exact absurd HHE.out hn)
 have HUS:=zz (show s.used+1≤s1.used from h1.used);have HK0:=zz hk0;have HI0:=zz hi0;have HC1:=zz h1;have HR1:=zz (AC h2 HRD.out);have HC3:=zz h3;have HC4:=zz h4;clear TB0 HCS hf h1 h2 h3 h4 hk0 hi0 hne;go_wp2_with fail;refine(TB.out _ HS2.out.m).mono ?_;rintro e w3 ⟨rfl,hm3,hf3⟩;have hS3:=HS2.out.burn hm3 hf3 (Nat.le_succ _);have hM3:Ay mb nb fb w2 tv w3 tv:=Ay.ofM hf3;obtain⟨nn,hfr0,hnn0⟩:=HS2.out.f;have hfr3:=hfr0.fr hf3 HS2.out.fne;have T4:=zz (HE.out X fb i0 R _ s1 _ tv w3 HI0.out HC1.out HR1.out hS3);have HM3:=zz hM3;obtain⟨b,o',rfl,hbl,e0⟩:=(HK2.out.step hM3 HS2.out.nobj HS2.out.fobj).1.idAt (l:=nd.kids) (k:=0) h0l;rw[HK0.out,Nat.add_zero] at e0;have hn3:=St.keepN nd _ kc HBN.out HN2.out hM3;obtain⟨-,-,-,-,-,y5,-⟩:=CB nd _ kc hn3;have HS3:=zz hS3;have HFR3:=zz hfr3;have HNN:=zz hnn0;clear hm3 hf3 hM3 TB hn3 z0 z1 z2 z3 z4 z5 hS3 hfr0 hfr3 hnn0;go_wp2_with fail;refine T4.out.mono ?_;rintro e w4 ⟨y,tv4,rfl,hy4,hS4,hs4⟩;have HS4:=zz hS4;have hM4:=HM3.out.trans (Ay.wide hs4);have HM4:=zz (HM2.out.trans hM4);have HFR:=zz (Ay.frame hs4 HFR3.out HS3.out);have hn4:=St.keepN nd _ kc HBN.out HN2.out hM4;obtain⟨x0,-,-,-,x4,x5,-⟩:=CB nd _ kc hn4;obtain⟨-,-,-,m4,m6,-,-,-,m9⟩:=hS4.m.read;clear hs4 T4 hn4 y5 e0;by_cases he1:s1.e=0
 case neg=>
  obtain⟨rfl,e2⟩:=HC3.out he1;obtain rfl:=e2.symm;have q4:((s1.e:Int) !=0)=true:=by simpa using he1
  clear he1 e2;clear hS4 hM4 hy4;go_wp2;go_ret;exact⟨0,tv4,R,rfl,fun a ha=>by (cases ha),HS4.out,HM4.out⟩
 have q4:((s1.e:Int) !=0)=false:=by simp[he1]
 obtain⟨a,rfl,hd⟩:=HC4.out he1;have HE1:=zz he1;clear he1;unfold Mx at hd;by_cases k6:nd.kind=6
 ·rw[if_pos k6] at hd
  obtain⟨rfl,e2⟩:=hd.ret HE1.out;obtain rfl:=e2.symm;have q6:((nd.kind:Int)==6)=true:=by simp[k6]
  clear k6 hd e2;obtain rfl:=hy4 a rfl;obtain⟨w5,hrun,hS5,hs5⟩:=hS4.set id a.x HIDL.out ⟨_,HFR.out,by have:=HNN.out;have:=HUS.out;omega⟩;have HS5:=zz hS5;have HM5:=zz (HM4.out.trans hs5);clear hS5 hs5 hS4 hM4 hy4;go_wp2;go_ret;exact⟨0,tv4,_,rfl,fun a ha=>by (injection ha with ha;subst ha;exact⟨rfl,rfl⟩),HS5.out,HM5.out⟩
 rw[if_neg k6] at hd;have q6:((nd.kind:Int)==6)=false:=by rw[beq_eq_false_iff_ne];omega
 by_cases k7:nd.kind=7
 ·rw[if_pos k7] at hd
  obtain⟨rfl,e2⟩:=hd.ret HE1.out;obtain rfl:=e2.symm;have q7:((nd.kind:Int)==7)=true:=by simp[k7]
  clear k6 k7 hd e2;obtain rfl:=hy4 a rfl;obtain⟨w5,hrun,hS5,hs5⟩:=hS4.set nd.ref a.x HRB.out ⟨_,HFR.out,by have:=HNN.out;have:=HUS.out;omega⟩;have HS5:=zz hS5;have HM5:=zz (HM4.out.trans hs5);clear hS5 hs5 hS4 hM4 hy4;go_wp2;go_ret;exact⟨0,tv4,_,rfl,fun a ha=>by (injection ha with ha;subst ha;exact⟨rfl,rfl⟩),HS5.out,HM5.out⟩
 rw[if_neg k7] at hd;have q7:((nd.kind:Int)==7)=false:=by rw[beq_eq_false_iff_ne];omega
 by_cases k11:nd.kind=11
 ·rw[if_pos k11] at hd
  have hr:o=some ⟨0,R⟩∧s'={s1 with trace:=s1.trace++[a.x]}:=by
   rcases hd with⟨_,hr⟩|⟨hn,_⟩
   ·injection hr with hr;injection hr with h1 h2;exact⟨h1.symm,h2.symm⟩
   ·exact absurd HE1.out hn
  obtain⟨rfl,rfl⟩:=hr;have q11:((nd.kind:Int)==11)=true:=by simp[k11]
  clear k6 k7 k11 hd;obtain rfl:=hy4 a rfl;obtain⟨j0,hj,hj0,hj1,hj2⟩:=info_parts X7
  go_wp2_with (at_builtin;refine wpList_append_own_at _ rfl (.tmp 78) (.tmp 80) _ rfl w0.heap.size 2 j0 _ 1 8 Tryz.underlying22 hj hj0 hj1 hj2 rfl (by decide) tv4 s1.trace.length (s1.trace.map i64V) rfl (HS4.out.m.tr.alloc _) ⟨w4.heap.size,0,none⟩ 1 1 [i64V a.x] rfl rfl (Aq _ _ _) ?_ ?_ ?_ ?_ ?_)
  ·intro u hu;simp only[List.mem_singleton] at hu;subst hu;rfl
  ·have:=HS4.out.m.us;have:=HNET.out;unfold maxLen;omega
  ·have:=HS4.out.m.us;have:=HNET.out;omega
  ·have:=HS4.out.m.bel.size;simp;omega
  ·intro v5 w5 own5 g5 _ at5
   obtain⟨y3,z3,rfl⟩:=ownsRow_succ own5;obtain⟨hS5,hs5⟩:=HS4.out.tell _ a.x own5 g5 (by simpa using at5) HNET.out;have HS5:=zz hS5;have HM5:=zz (HM4.out.trans hs5);have hb5:=(g5.block mb (by have:=HS4.out.m.lt;simp;omega) (fun e=>HS4.out.m.tm e.symm)).trans ((heap_alloc_old w4 _ HS4.out.m.lt).trans HS4.out.m.cell);have hf5:∀i,w5.frozen? ⟨mb,i,none⟩=false:=fun i=>by simp[World.frozen?,hb5]
   have c5:=AJ w5 mb 6 _ _ (0,0) hb5;simp at c5;clear hS5 hs5 own5 g5 at5 hS4 hb5 hy4 hM4;go_wp2;go_ret;exact⟨0,_,R,rfl,fun a ha=>by (injection ha with ha;subst ha;exact⟨rfl,rfl⟩),HS5.out,HM5.out⟩
 rw[if_neg k11] at hd;have q11:((nd.kind:Int)==11)=false:=by rw[beq_eq_false_iff_ne];omega
 by_cases k8:nd.kind=8
 ·rw[if_pos k8] at hd
  have q8:((nd.kind:Int)==8)=true:=by simp[k8]
  by_cases h3:nd.kids.length=3∧isB a.x
  case neg=>
   rw[if_neg h3] at hd;exact(hd.bot HE1.out).elim
  rw[if_pos h3] at hd;obtain⟨o2,h5,h6⟩:=Hg.Io (g:=fun p:FO=>(⟨0,p.V⟩:FO)) hd;have HL3:=zz h3.1;have HX:=zz h3.2;have HB5:=zz h5;have HB6:=zz h6;clear k6 k7 k11 k8 hd h3 h5 h6;obtain rfl:=hy4 a rfl;have hs5:=HK2.out.step hM4 HS2.out.nobj HS2.out.fobj;have hblk:∃(i:Nat) (hi:i < nd.kids.length),(2-a.x:Int)=(i:Int)∧(if a.x=1 then nd.k 1 else nd.k 2)=nd.kids[i]:=by
   have hl:=HL3.out;rcases HX.out with e|e
   ·exact⟨2,by omega,by rw[e];rfl,by rw[e,if_neg (by decide)];simp[Hg.Node.k,List.getD,show 2 < nd.kids.length by omega]⟩
   ·exact⟨1,by omega,by rw[e];rfl,by rw[e,if_pos rfl];simp[Hg.Node.k,List.getD,show 1 < nd.kids.length by omega]⟩
  obtain⟨ik,hik,hie,hke⟩:=hblk;have hwr:wrap64 (2-a.x)=(ik:Int):=by rw[hie];have:=HL3.out;unfold wrap64;omega
  obtain⟨b',o2',hbo,hbl1,e1⟩:=hs5.1.idAt (l:=nd.kids) (k:=ik) hik;injection hbo with hbo;injection hbo with hb1 hb2;subst hb1;subst hb2;have hb5:=HB5.out;rw[hke] at hb5;have hin5:=HKIN.out _ (List.getElem_mem hik);generalize nd.kids[ik]=kb at hb5 hin5 e1 hke;have T5:=zz (HB.out X fb kb R s1 s' o2 tv4 w4 hin5 hb5 HRD.out HS4.out);have HIK:=zz (And.intro hik hie);have hib:((ik:Nat):Int) < (nd.kids.length:Int):=by omega
  clear hS4 hM4 hy4 hs5 hke hb5 hin5 hie;go_wp2_with fail;refine T5.out.mono ?_;rintro e w5 ⟨y,tv5,R5,rfl,hy5,hS5,hs5⟩;have HS5:=zz hS5;have HM5:=zz (HM4.out.trans hs5);have HY5:=zz hy5;clear hS5 hs5 T5 hy5;go_wp2;go_ret;exact⟨0,tv5,R5,rfl,fun q hq=>by (obtain⟨p,e1,e2⟩:=HB6.out q hq;subst e2;exact⟨rfl,(HY5.out p e1).2⟩),HS5.out,HM5.out⟩
 rw[if_neg k8] at hd;have q8:((nd.kind:Int)==8)=false:=by rw[beq_eq_false_iff_ne];omega
 by_cases k10:nd.kind=10
 ·rw[if_pos k10] at hd
  obtain⟨rfl,e2⟩:=hd.ret HE1.out;obtain rfl:=e2.symm;have q10:((nd.kind:Int)==10)=true:=by simp[k10]
  clear k6 k7 k11 k8 k10 hd e2;obtain rfl:=hy4 a rfl;clear hS4 hM4 hy4;go_wp2;go_ret;exact⟨a.x,tv4,R,rfl,fun b hb=>by (injection hb with hb;subst hb;exact⟨rfl,rfl⟩),HS4.out,HM4.out⟩
 rw[if_neg k10] at hd;have q10:((nd.kind:Int)==10)=false:=by rw[beq_eq_false_iff_ne];omega
 obtain⟨rfl,e2⟩:=hd.ret HE1.out;obtain rfl:=e2.symm;clear k6 k7 k11 k8 k10 hd e2;clear hS4 hM4 hy4;go_wp2;go_ret;exact⟨0,tv4,R,rfl,fun b hb=>by (injection hb with hb;subst hb;exact⟨rfl,rfl⟩),HS4.out,HM4.out⟩
end Go.Proofs.YtfgnfpdfohjopaaGreatDoor.Rn
