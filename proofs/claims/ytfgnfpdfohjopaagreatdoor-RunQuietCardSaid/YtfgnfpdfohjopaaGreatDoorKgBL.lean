/-
  RunQuiet holds:proved from the walk of each function that it reaches.
-/
import Derived.Test.YtfgnfpdfohjopaaGreatDoorKgBK
import Derived.Test.YtfgnfpdfohjopaaGreatDoorCards
import Derived.Test.YtfgnfpdfohjopaaGreatDoorTie
set_option linter.all false
namespace Go.Proofs.YtfgnfpdfohjopaaGreatDoor
open Go
theorem Q8:Rows.RunQuietCardSaid:=
 Claim7.holds_tied_plain_at .later [] [.data,.data,.data,.sentinel,.sentinel,.listed,.data] true (true,"38141f9fe5350047edcbff3d76305b04d0af266bc5f5374175b6e1f55611aeb1") true
  NE (fun _ h=>by cases h) (by kernel_rfl) (fun _ h=>by cases h) runQuiet_row_tie rfl ⟨rfl,rfl⟩ (by kernel_rfl) rfl
  (fun f fn hf hfn => by
   obtain rfl:f=4:=Option.some.inj ((show Tryz.prog.funcNamed "hourglass/hourglasslaw13.RunQuiet"=some 4 by kernel_rfl).symm.trans hf)|>.symm;obtain rfl:fn=Tryz.f4:=(Option.some.inj (Tryz.func4.symm.trans hfn)).symm;exact⟨by kernel_rfl,fun j t ht=>by
    rw[Tryz.params4] at ht;have hm:t∈[9,22,23]:=by
     have:=Array.mem_of_getElem? ht;simp at this;simp;omega
    have hall:([9,22,23].all fun u=> !Tryz.prog.wantsStandIn u)=true:=by kernel_rfl
    exact(show Tryz.prog.wantsStandIn t=false by simpa using List.all_eq_true.1 hall t hm)⟩)
  (by kernel_rfl)
end Go.Proofs.YtfgnfpdfohjopaaGreatDoor
