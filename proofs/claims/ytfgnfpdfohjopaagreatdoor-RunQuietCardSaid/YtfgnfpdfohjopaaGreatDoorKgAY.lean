/-
  A part of the proof.
-/
import Derived.Test.YtfgnfpdfohjopaaGreatDoorKgAJ
import Derived.Test.YtfgnfpdfohjopaaGreatDoorKgAX
set_option linter.all false
set_option maxHeartbeats 0
set_option maxRecDepth 100000
namespace Go.Proofs.YtfgnfpdfohjopaaGreatDoor
open Go.RowKit
def Cv(w:World):Prop:=Go.Lib.TabIs Tryz.prog w "strings.asciiSpace" .u8 Go.Lib.asciiSpaceTab
theorem gTab:Tryz.prog.globalNamed "strings.asciiSpace"=some 0:=by kernel_rfl
theorem Cv.lt{w:World}(h:Cv w):0 < w.heap.size:=by
 unfold Cv Go.Lib.TabIs at h;cases hx:w.heap[0]? with
 |some o=>exact(Ab.1 hx).1
 |none=>
   exfalso;simp only[World.var?,gTab,Option.bind_eq_bind,Option.bind_some] at h;rw[hx] at h;simp at h
theorem Cv.block{w w':World}(h:Cv w)(hb:w'.heap[0]? =w.heap[0]?):Cv w':=by
 unfold Cv Go.Lib.TabIs at h⊢;rw[←h];simp only[World.var?,gTab,Option.bind_eq_bind,Option.bind_some];rw[hb]
theorem Cv.below{w w':World}{B:Nat}(h:Cv w)(hb:Below B w w')(hB:0 < B):Cv w':=h.block (hb.block _ hB)
def Qs:List UInt8:=[98,111,111,108,32,100,111,32,101,108,115,101,32,102,97,108,115,101,32,102,117,110,99,32,105,102,32,105,110,116,32,108,101,116,32,109,111,100,117,108,101,32,112,114,105,110,116,32,114,101,97,100,32,114,101,116,117,114,110,32,116,114,117,101,32,119,104,105,108,101]
theorem OP:Go.Lib.fields Qs=Hg.words:=by decide+kernel
theorem Ti:Qs.all (fun b=>decide (b.toNat < 128))=true:=by decide+kernel
theorem Vy{l:List UInt8}(h:l.all (fun b=>decide (b.toNat < 128))=true):∀(j:Nat) b,l[j]? =some b→b.toNat < 128:=fun j b hj=>by
 simpa using(List.all_eq_true.1 h) b (List.mem_of_getElem? hj)
theorem Xt(l:List UInt8)(ws:List (List UInt8))(hf:Go.Lib.fields l=ws)(hlow:l.all (fun b=>decide (b.toNat < 128))=true)(hl:l.length < 1000)(w:World)(hT:Cv w):
 Calls Tryz.prog 153 #[.string ⟨l.toArray⟩] w fun e w'=>∃a,e= .returned (.slice (some a) ws.length ws.length)∧Sl w' w'.heap.size (.slice (some a) ws.length ws.length) ws.length (ws.map strV)∧Below w.heap.size w w':=by
 have h:=Tryz.strings_Fields ⟨l.toArray⟩ w (by simp[ByteArray.size];omega) (Vy hlow) hT;refine h.mono ?_;rintro e w' ⟨rfl,rfl⟩;have e1:(⟨l.toArray⟩:ByteArray).data.toList=l:=by simp
 rw[e1,hf];refine⟨⟨w.heap.size,0,none⟩,rfl, ?_,(AL).alloc AA _⟩;have:=Sl.new w 9 ws.length (ws.map strV).toArray;simpa using this
theorem Qr(w:World)(hT:Cv w):
 Calls Tryz.prog 148 #[] w fun e w'=>∃a,e= .returned (.slice (some a) 14 14)∧Sl w' w'.heap.size (.slice (some a) 14 14) 14 (Hg.words.map strV)∧Below w.heap.size w w':=by
 have TF:=Xt Qs Hg.words OP Ti (by decide) w hT;go_enter Tryz.func148,Tryz.ntmps148;go_wp2_with fail;refine TF.mono ?_;rintro e w1 ⟨a,rfl,hs,hb⟩;go_wp2;go_ret;exact⟨a,rfl,hs,hb⟩
theorem RQ(s:List UInt8)(w:World)(hT:Cv w):
 Calls Tryz.prog 108 #[.string ⟨s.toArray⟩] w fun e w'=>e= .returned (.bool (Hg.inL Hg.words s))∧Below w.heap.size w w':=by
 have HT:=zz hT;clear hT;go_enter Tryz.func108,Tryz.ntmps108
 go_wp2_with (first|(go_at_call 148;refine(Qr _ HT.out).mono ?_;rintro e w1 ⟨a,rfl,hs,hb⟩)|(go_at_call 112;refine(NK _ _ Hg.words s _ hs (by decide)).mono ?_;rintro e w' ⟨rfl,rfl⟩))
 go_ret;exact⟨rfl,hb⟩
def LD(s:List UInt8):Bool:=Hg.Cj s && !Hg.inL Hg.words s
theorem RU(s:List UInt8)(w:World)(hs:s.length≤1000000000)(hT:Cv w):
 Calls Tryz.prog 137 #[.string ⟨s.toArray⟩] w fun e w'=>e= .returned (.bool (LD s))∧Below w.heap.size w w':=by
 have TS:=Q3 s;have TW:=zz (RQ s w hT);unfold LD;generalize Hg.inL Hg.words s=q at TW⊢;cases hn:Hg.Cj s with
 |true=>
   rw[hn] at TS;clear hn;go_enter Tryz.func137,Tryz.ntmps137
   go_wp2_with (first|(go_at_call 109;refine(TS _ hs).mono ?_;rintro e w' ⟨rfl,rfl⟩)|(go_at_call 108;refine TW.out.mono ?_;rintro e w1 ⟨rfl,hb⟩))
   go_ret;exact⟨Ad (by simp),hb⟩
 |false=>
   rw[hn] at TS;clear hn;go_enter Tryz.func137,Tryz.ntmps137
   go_wp2_with (go_at_call 109;refine(TS _ hs).mono ?_;rintro e w' ⟨rfl,rfl⟩)
   go_ret;exact⟨Ad (by simp),AL⟩
end Go.Proofs.YtfgnfpdfohjopaaGreatDoor
