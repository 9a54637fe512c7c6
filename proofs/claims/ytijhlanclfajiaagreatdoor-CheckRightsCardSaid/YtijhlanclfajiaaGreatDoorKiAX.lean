/-
  A part of the proof.
-/
import Derived.Test.YtijhlanclfajiaaGreatDoorKiAI
import Derived.Test.YtijhlanclfajiaaGreatDoorKiAW
set_option linter.all false
set_option maxHeartbeats 32000000
set_option maxRecDepth 100000
namespace Go.Proofs.YtijhlanclfajiaaGreatDoor
open Go.RowKit
def DX(w:World):Prop:=Go.Lib.TabIs Tryz.prog w "strings.asciiSpace" .u8 Go.Lib.asciiSpaceTab
theorem gTab:Tryz.prog.globalNamed "strings.asciiSpace"=some 0:=by kernel_rfl
theorem DX.lt{w:World}(h:DX w):0 < w.heap.size:=by
 unfold DX Go.Lib.TabIs at h;cases hx:w.heap[0]? with
 |some o=>exact(Ab.1 hx).1
 |none=>
   exfalso;simp only[World.var?,gTab,Option.bind_eq_bind,Option.bind_some] at h;rw[hx] at h;simp at h
theorem DX.block{w w':World}(h:DX w)(hb:w'.heap[0]? =w.heap[0]?):DX w':=by
 unfold DX Go.Lib.TabIs at h⊢;rw[←h];simp only[World.var?,gTab,Option.bind_eq_bind,Option.bind_some];rw[hb]
theorem DX.below{w w':World}{B:Nat}(h:DX w)(hb:Below B w w')(hB:0 < B):DX w':=h.block (hb.block _ hB)
def Rc:List UInt8:=[98,111,111,108,32,100,111,32,101,108,115,101,32,102,97,108,115,101,32,102,117,110,99,32,105,102,32,105,110,116,32,108,101,116,32,109,111,100,117,108,101,32,112,114,105,110,116,32,114,101,97,100,32,114,101,116,117,114,110,32,116,114,117,101,32,119,104,105,108,101]
theorem O4:Go.Lib.fields Rc=Hg.words:=by decide+kernel
theorem UL:Rc.all (fun b=>decide (b.toNat < 128))=true:=by decide+kernel
theorem We{l:List UInt8}(h:l.all (fun b=>decide (b.toNat < 128))=true):∀(j:Nat) b,l[j]? =some b→b.toNat < 128:=fun j b hj=>by
 simpa using(List.all_eq_true.1 h) b (List.mem_of_getElem? hj)
theorem Yb(l:List UInt8)(ws:List (List UInt8))(hf:Go.Lib.fields l=ws)(hlow:l.all (fun b=>decide (b.toNat < 128))=true)(hl:l.length < 1000)(w:World)(hT:DX w):
 Calls Tryz.prog 153 #[.string ⟨l.toArray⟩] w fun e w'=>∃a,e= .returned (.slice (some a) ws.length ws.length)∧Sl w' w'.heap.size (.slice (some a) ws.length ws.length) ws.length (ws.map strV)∧Below w.heap.size w w':=by
 have h:=Tryz.strings_Fields ⟨l.toArray⟩ w (by simp[ByteArray.size];omega) (We hlow) hT;refine h.mono ?_;rintro e w' ⟨rfl,rfl⟩;have e1:(⟨l.toArray⟩:ByteArray).data.toList=l:=by simp
 rw[e1,hf];refine⟨⟨w.heap.size,0,none⟩,rfl, ?_,(AP).alloc AA _⟩;have:=Sl.new w 9 ws.length (ws.map strV).toArray;simpa using this
theorem Rb(w:World)(hT:DX w):
 Calls Tryz.prog 148 #[] w fun e w'=>∃a,e= .returned (.slice (some a) 14 14)∧Sl w' w'.heap.size (.slice (some a) 14 14) 14 (Hg.words.map strV)∧Below w.heap.size w w':=by
 have TF:=Yb Rc Hg.words O4 UL (by decide) w hT;go_enter Tryz.func148,Tryz.ntmps148;go_wp2_with fail;refine TF.mono ?_;rintro e w1 ⟨a,rfl,hs,hb⟩;go_wp2;go_ret;exact⟨a,rfl,hs,hb⟩
theorem SI(s:List UInt8)(w:World)(hT:DX w):
 Calls Tryz.prog 122 #[.string ⟨s.toArray⟩] w fun e w'=>e= .returned (.bool (Hg.inL Hg.words s))∧Below w.heap.size w w':=by
 have HT:=zz hT;clear hT;go_enter Tryz.func122,Tryz.ntmps122
 go_wp2_with (first|(go_at_call 148;refine(Rb _ HT.out).mono ?_;rintro e w1 ⟨a,rfl,hs,hb⟩)|(go_at_call 126;refine(N7 _ _ Hg.words s _ hs (by decide)).mono ?_;rintro e w' ⟨rfl,rfl⟩))
 go_ret;exact⟨rfl,hb⟩
def Ga(s:List UInt8):Bool:=Hg.Cb s && !Hg.inL Hg.words s
theorem SK(s:List UInt8)(w:World)(hs:s.length≤1000000000)(hT:DX w):
 Calls Tryz.prog 104 #[.string ⟨s.toArray⟩] w fun e w'=>e= .returned (.bool (Ga s))∧Below w.heap.size w w':=by
 have TS:=Ro s;have TW:=zz (SI s w hT);unfold Ga;generalize Hg.inL Hg.words s=q at TW⊢;cases hn:Hg.Cb s with
 |true=>
   rw[hn] at TS;clear hn;go_enter Tryz.func104,Tryz.ntmps104
   go_wp2_with (first|(go_at_call 123;refine(TS _ hs).mono ?_;rintro e w' ⟨rfl,rfl⟩)|(go_at_call 122;refine TW.out.mono ?_;rintro e w1 ⟨rfl,hb⟩))
   go_ret;exact⟨AQ (by simp),hb⟩
 |false=>
   rw[hn] at TS;clear hn;go_enter Tryz.func104,Tryz.ntmps104
   go_wp2_with (go_at_call 123;refine(TS _ hs).mono ?_;rintro e w' ⟨rfl,rfl⟩)
   go_ret;exact⟨AQ (by simp),AP⟩
end Go.Proofs.YtijhlanclfajiaaGreatDoor
