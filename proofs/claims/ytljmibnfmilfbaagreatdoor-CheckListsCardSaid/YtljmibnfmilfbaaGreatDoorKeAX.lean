/-
  Part of the proof of CheckLists.
-/
import Derived.Test.YtljmibnfmilfbaaGreatDoorKeAI
import Derived.Test.YtljmibnfmilfbaaGreatDoorKeAW
set_option linter.all false
set_option maxHeartbeats 32000000
set_option maxRecDepth 100000
namespace Go.Proofs.YtljmibnfmilfbaaGreatDoor
open Go.RowKit
def Bl(w:World):Prop:=Go.Lib.TabIs Tryz.prog w "strings.asciiSpace" .u8 Go.Lib.asciiSpaceTab
theorem gTab:Tryz.prog.globalNamed "strings.asciiSpace"=some 0:=by kernel_rfl
theorem Bl.lt{w:World}(h:Bl w):0 < w.heap.size:=by
 unfold Bl Go.Lib.TabIs at h;cases hx:w.heap[0]? with
 |some o=>exact(Array.getElem?_eq_some_iff.1 hx).1
 |none=>
   exfalso;simp only[World.var?,gTab,Option.bind_eq_bind,Option.bind_some] at h;rw[hx] at h;simp at h
theorem Bl.block{w w':World}(h:Bl w)(hb:w'.heap[0]? =w.heap[0]?):Bl w':=by
 unfold Bl Go.Lib.TabIs at h⊢;rw[←h];simp only[World.var?,gTab,Option.bind_eq_bind,Option.bind_some];rw[hb]
theorem Bl.below{w w':World}{B:Nat}(h:Bl w)(hb:Below B w w')(hB:0 < B):Bl w':=h.block (hb.block _ hB)
def Qv:List UInt8:=[98,111,111,108,32,100,111,32,101,108,115,101,32,102,97,108,115,101,32,102,117,110,99,32,105,102,32,105,110,116,32,108,101,116,32,109,111,100,117,108,101,32,112,114,105,110,116,32,114,101,97,100,32,114,101,116,117,114,110,32,116,114,117,101,32,119,104,105,108,101]
def Q7:List UInt8:=[40,32,41,32,123,32,125,32,46,32,44,32,59,32,61,32,33,32,43,32,45,32,42,32,47,32,37,32,60,32,60,61,32,62,32,62,61,32,61,61,32,33,61,32,38,38,32,124,124]
theorem OU:Go.Lib.fields Qv=Hg.words:=by decide+kernel
theorem Oe:Go.Lib.fields Q7=Hg.signs:=by decide+kernel
theorem Tg:Qv.all (fun b=>decide (b.toNat < 128))=true:=by decide+kernel
theorem UK:Q7.all (fun b=>decide (b.toNat < 128))=true:=by decide+kernel
theorem YU{l:List UInt8}(h:l.all (fun b=>decide (b.toNat < 128))=true):∀(j:Nat) b,l[j]? =some b→b.toNat < 128:=fun j b hj=>by
 simpa using(List.all_eq_true.1 h) b (List.mem_of_getElem? hj)
theorem PD(l:List UInt8)(ws:List (List UInt8))(hf:Go.Lib.fields l=ws)(hlow:l.all (fun b=>decide (b.toNat < 128))=true)(hl:l.length < 1000)(w:World)(hT:Bl w):
 Calls Tryz.prog 138 #[.string ⟨l.toArray⟩] w fun e w'=>∃a,e= .returned (.slice (some a) ws.length ws.length)∧Sl w' w'.heap.size (.slice (some a) ws.length ws.length) ws.length (ws.map strV)∧Below w.heap.size w w':=by
 have h:=Tryz.strings_Fields ⟨l.toArray⟩ w (by simp[ByteArray.size];omega) (YU hlow) hT;refine h.mono ?_;rintro e w' ⟨rfl,rfl⟩;have e1:(⟨l.toArray⟩:ByteArray).data.toList=l:=by simp
 rw[e1,hf];refine⟨⟨w.heap.size,0,none⟩,rfl, ?_,(Below.refl _ _).alloc (Nat.le_refl _) _⟩;have:=Sl.new w 9 ws.length (ws.map strV).toArray;simpa using this
theorem Qu(w:World)(hT:Bl w):
 Calls Tryz.prog 133 #[] w fun e w'=>∃a,e= .returned (.slice (some a) 14 14)∧Sl w' w'.heap.size (.slice (some a) 14 14) 14 (Hg.words.map strV)∧Below w.heap.size w w':=by
 have TF:=PD Qv Hg.words OU Tg (by decide) w hT;go_enter Tryz.func133,Tryz.ntmps133;go_wp2_with fail;refine TF.mono ?_;rintro e w1 ⟨a,rfl,hs,hb⟩;go_wp2;go_ret;exact⟨a,rfl,hs,hb⟩
theorem Q6(w:World)(hT:Bl w):
 Calls Tryz.prog 102 #[] w fun e w'=>∃a,e= .returned (.slice (some a) 22 22)∧Sl w' w'.heap.size (.slice (some a) 22 22) 22 (Hg.signs.map strV)∧Below w.heap.size w w':=by
 have TF:=PD Q7 Hg.signs Oe UK (by decide) w hT;go_enter Tryz.func102,Tryz.ntmps102;go_wp2_with fail;refine TF.mono ?_;rintro e w1 ⟨a,rfl,hs,hb⟩;go_wp2;go_ret;exact⟨a,rfl,hs,hb⟩
theorem Hm(s:List UInt8)(w:World)(hT:Bl w):
 Calls Tryz.prog 97 #[.string ⟨s.toArray⟩] w fun e w'=>e= .returned (.bool (Hg.inL Hg.words s))∧Below w.heap.size w w':=by
 have HT:=zz hT;clear hT;go_enter Tryz.func97,Tryz.ntmps97
 go_wp2_with (first|(go_at_call 133;refine(Qu _ HT.out).mono ?_;rintro e w1 ⟨a,rfl,hs,hb⟩)|(go_at_call 101;refine(Gc _ _ Hg.words s _ hs (by decide)).mono ?_;rintro e w' ⟨rfl,rfl⟩))
 go_ret;exact⟨rfl,hb⟩
def Fw(s:List UInt8):Bool:=Hg.Bz s && !Hg.inL Hg.words s
theorem Rb(s:List UInt8)(w:World)(hs:s.length≤1000000000)(hT:Bl w):
 Calls Tryz.prog 118 #[.string ⟨s.toArray⟩] w fun e w'=>e= .returned (.bool (Fw s))∧Below w.heap.size w w':=by
 have TS:=JV s;have TW:=zz (Hm s w hT);unfold Fw;generalize Hg.inL Hg.words s=q at TW⊢;cases hn:Hg.Bz s with
 |true=>
   rw[hn] at TS;clear hn;go_enter Tryz.func118,Tryz.ntmps118
   go_wp2_with (first|(go_at_call 98;refine(TS _ hs).mono ?_;rintro e w' ⟨rfl,rfl⟩)|(go_at_call 97;refine TW.out.mono ?_;rintro e w1 ⟨rfl,hb⟩))
   go_ret;exact⟨AU (by simp),hb⟩
 |false=>
   rw[hn] at TS;clear hn;go_enter Tryz.func118,Tryz.ntmps118
   go_wp2_with (go_at_call 98;refine(TS _ hs).mono ?_;rintro e w' ⟨rfl,rfl⟩)
   go_ret;exact⟨AU (by simp),Below.refl _ _⟩
end Go.Proofs.YtljmibnfmilfbaaGreatDoor
