/-
  CheckRights:for every text and every list of changes the law's function returns true,where the listed package-level variables of the library hold what the program's own text lays in them.
-/
import Derived.Test.YtijhlanclfajiaaGreatDoorKiBL
import Derived.Test.YtijhlanclfajiaaGreatDoorCards
import Derived.Test.YtijhlanclfajiaaGreatDoorTie
set_option linter.all false
namespace Go.Proofs.YtijhlanclfajiaaGreatDoor
open Go
theorem VU:Rows.CheckRightsCardSaid:=
 Claim7.holds_tied_plain_at .later [] [.data,.data,.data,.sentinel,.sentinel,.listed,.data] true (true,"aadf729753b3fa6f9f02b7b44698295393ea4583d06334e2ee5a0064b30ada0a") true
  Kh (fun _ h=>by cases h) (by kernel_rfl) (fun _ h=>by cases h) checkRights_row_tie rfl ⟨rfl,rfl⟩ (by kernel_rfl) rfl
  (fun f fn hf hfn => by
   obtain rfl:f=3:=Option.some.inj ((show Tryz.prog.funcNamed "hourglass/hourglasslaw11.CheckRights"=some 3 by kernel_rfl).symm.trans hf)|>.symm;obtain rfl:fn=Tryz.f3:=(Option.some.inj (Tryz.func3.symm.trans hfn)).symm;exact⟨by kernel_rfl,fun j t ht=>by
    rw[Tryz.params3] at ht;have hm:t∈[9,22]:=by simpa using Array.mem_of_getElem? ht
    have hall:([9,22].all fun u=> !Tryz.prog.wantsStandIn u)=true:=by kernel_rfl
    exact(show Tryz.prog.wantsStandIn t=false by simpa using List.all_eq_true.1 hall t hm)⟩)
  (by kernel_rfl)
end Go.Proofs.YtijhlanclfajiaaGreatDoor
