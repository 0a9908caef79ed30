/-
  SessionTears: for all lists of commands and places the law returns true, and its arguments read as before. No conditions beyond the row's own: the listed package-level variables hold what the program's text lays (tied).
-/
import Derived.Test.YtclgllmipcbagaaGreatDoorSTk09
import Derived.Test.YtclgllmipcbagaaGreatDoorSTk10
import Derived.Test.YtclgllmipcbagaaGreatDoorSTk11
import Derived.Test.YtclgllmipcbagaaGreatDoorSTk12
import Derived.Test.YtclgllmipcbagaaGreatDoorSTk13
namespace Go.Proofs.YtclgllmipcbagaaGreatDoor.SessionTearsLaw
open Go.ChangeShapes Go.WideShapes Go.ChangeAt Go.RowKit
set_option linter.unusedVariables false
set_option linter.unusedSimpArgs false
set_option maxRecDepth 100000
set_option maxHeartbeats 16000000
theorem proved:Rows.SessionTearsCardSaid:=
 Claim7.holds_tied_plain_at .later [] [.data,.data,.data,.data,.sentinel,.sentinel,.pinned] true (true, "40fd7c9d77945aea60ce38604d890a1f576dcfdeedf5cfb55ac1d8be6105ecf7") true over (fun _ h=>by cases h) f_wfText (fun _ h=>by cases h) sessionTears_row_tie rfl ⟨rfl,rfl⟩ pf_main rfl
  (fun f fn hf hfn=>by
    obtain rfl:f=10:=Option.some.inj (f_fn.symm.trans hf) |>.symm;obtain rfl:fn=Tryz.f10:=(Option.some.inj (Tryz.func10.symm.trans hfn)).symm;exact⟨pf_looks,fun j t ht=>by
     rw[Tryz.params10]at ht;have hm:t∈[78,92]:=by simpa using Array.mem_of_getElem? ht
     have hall:([78,92].all fun u=> !Tryz.prog.wantsStandIn u)=true:=by kernel_rfl
     exact(show Tryz.prog.wantsStandIn t=false by simpa using List.all_eq_true.1 hall t hm)⟩)
  f_goes
end Go.Proofs.YtclgllmipcbagaaGreatDoor.SessionTearsLaw
#print axioms Go.Proofs.YtclgllmipcbagaaGreatDoor.SessionTearsLaw.proved
