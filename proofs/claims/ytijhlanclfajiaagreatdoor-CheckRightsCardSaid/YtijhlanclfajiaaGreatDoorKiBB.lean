/-
  A part of the proof.
-/
import Derived.Test.YtijhlanclfajiaaGreatDoorKiAZ
set_option linter.all false
set_option maxHeartbeats 32000000
set_option maxRecDepth 100000
namespace Hg
def awBT:Str:=[109,111,100,117,108,101,32,109,97,105,110,32,123,32,102,117,110,99,32,109,97,105,110,40,41,32,105,110,116,32,123,32,114,101,116,117,114,110,32,40,49,32,43,32,50,41,59,32,125,32,125]
def awB:List Row:=[⟨1,⟨1,[],0,0,0,[2]⟩⟩,⟨2,⟨2,[109,97,105,110],0,0,0,[3]⟩⟩,⟨3,⟨3,[109,97,105,110],0,1,0,[4]⟩⟩,⟨4,⟨5,[],0,0,0,[5]⟩⟩,⟨5,⟨10,[],0,0,0,[6]⟩⟩,⟨6,⟨18,[],1,0,0,[7,8]⟩⟩,⟨7,⟨13,[],1,0,0,[]⟩⟩,⟨8,⟨13,[],2,0,0,[]⟩⟩]
end Hg
namespace Go.Proofs.YtijhlanclfajiaaGreatDoor.Ev
open Go Go.RowKit
theorem VY:M0 Hg.awBT Hg.awB=true:=by decide+kernel
end Go.Proofs.YtijhlanclfajiaaGreatDoor.Ev
