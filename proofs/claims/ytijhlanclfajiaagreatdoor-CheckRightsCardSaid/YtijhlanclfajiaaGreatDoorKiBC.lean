/-
  A part of the proof.
-/
import Derived.Test.YtijhlanclfajiaaGreatDoorRows
import Derived.Test.YtijhlanclfajiaaGreatDoorKiAX
import Derived.ProofKit
import Derived.LaidMore
import Derived.OpenShut
import Derived.Stop.Joined
set_option linter.all false
namespace Go.Proofs.YtijhlanclfajiaaGreatDoor
open Go.ChangeShapes Go.WideShapes Go.ChangeAt Go.ChangeMaps Go.WideMaps Go.WideElems Go.RowKit
theorem own:ownKnob Tryz.prog.godebug=none:=by kernel_rfl
def lz:List (String×DataW Unit):=[("math/bits.deBruijn32tab",Rows.laid_math_bits_deBruijn32tab),("math/bits.deBruijn64tab",Rows.laid_math_bits_deBruijn64tab),("internal/strconv.uint64pow10",Rows.laid_internal_strconv_uint64pow10),("strconv.ErrRange",Rows.laid_strconv_ErrRange),("strconv.ErrSyntax",Rows.laid_strconv_ErrSyntax),("unicode.White_Space",Rows.laid_unicode_White_Space),("strings.asciiSpace",Rows.laid_strings_asciiSpace)]
theorem XK(os:Os)(args:Array Value):laidMetH Tryz.prog lz ((World.doorLaid Tryz.prog 86 os).forCall (fun _ _=>0) ⟨#[],args,[]⟩).memory:=
 laidMetH_of_parts3 (fuel:=8) (laidMet_of_run' 8 (by kernel_rfl) (by kernel_rfl)) (by kernel_rfl) (by kernel_rfl)
theorem Ld{W:World}:∀(l:List (String×DataW Unit)) (ps:List MemPlace),DataW.LaidVars Tryz.prog W l ps→("strings.asciiSpace",(Lib.tabData .u8 Lib.asciiSpaceTab:DataW Unit))∈l→DX W
 |[],ps,h,hm=>by simp at hm
 |(n,d)::r,ps,h,hm=>by
   obtain⟨g,t,cs,fuel,p,q,hg,ht,hvar,hd,hr,_⟩:=h;rcases List.mem_cons.1 hm with e|hm
   ·injection e with e1 e2
    subst e1;subst e2;obtain rfl:=Option.some.inj (gTab.symm.trans hg);obtain rfl:=Option.some.inj ((show(Tryz.prog.globals[0]?).map (·.type)=some 219 by kernel_rfl).symm.trans ht);unfold DX Lib.TabIs;rw[hvar,←Lib.cells_of_tab Tryz.underlying219 Tryz.underlying5 (by kernel_rfl) (by kernel_rfl) hd]
   ·exact Ld r q hr hm
theorem YI{W:World}(h:laidMetH Tryz.prog lz W):DX W:=by
 rw[MakeChecks.laidMetH_plain _ _ _ (by kernel_rfl)] at h;obtain⟨ps,hv,_⟩:=h;refine Ld lz ps hv ?_;have e:(Rows.laid_strings_asciiSpace:DataW Unit)=Lib.tabData .u8 Lib.asciiSpaceTab:=by kernel_rfl
 unfold lz;rw[e];simp
end Go.Proofs.YtijhlanclfajiaaGreatDoor
