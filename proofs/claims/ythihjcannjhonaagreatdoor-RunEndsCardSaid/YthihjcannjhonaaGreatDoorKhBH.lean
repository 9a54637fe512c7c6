/-
  RunEnds:for every text,every fuel and every two results the law's function returns true,where the listed package-level variables of the library hold what the program's own text lays in them.
-/
import Derived.Test.YthihjcannjhonaaGreatDoorKhBG
import Derived.Test.YthihjcannjhonaaGreatDoorCards
import Derived.Test.YthihjcannjhonaaGreatDoorTie
set_option linter.all false
namespace Go.Proofs.YthihjcannjhonaaGreatDoor
open Go
theorem X9:Rows.RunEndsCardSaid:=
 Claim7.holds_tied_plain_at .later [] [.data,.data,.data,.sentinel,.sentinel,.listed,.data] true (true,"ba56a3afbc0f709d89847a03c9d32b456f4c6c6e786ea8f4e7852ace90e04c5e") true
  Nv (fun _ h=>by cases h) (by kernel_rfl) (fun _ h=>by cases h) runEnds_row_tie rfl ⟨rfl,rfl⟩ (by kernel_rfl) rfl
  (fun f fn hf hfn => by
   obtain rfl:f=4:=Option.some.inj ((show Tryz.prog.funcNamed "hourglass/hourglasslaw13.RunEnds"=some 4 by kernel_rfl).symm.trans hf)|>.symm;obtain rfl:fn=Tryz.f4:=(Option.some.inj (Tryz.func4.symm.trans hfn)).symm;exact⟨by kernel_rfl,fun j t ht=>by
    rw[Tryz.params4] at ht;have hm:t∈[9,3,31]:=by
     have:=Array.mem_of_getElem? ht;simp at this;simp;omega
    have hall:([9,3,31].all fun u=> !Tryz.prog.wantsStandIn u)=true:=by kernel_rfl
    exact(show Tryz.prog.wantsStandIn t=false by simpa using List.all_eq_true.1 hall t hm)⟩)
  (by kernel_rfl)
end Go.Proofs.YthihjcannjhonaaGreatDoor
