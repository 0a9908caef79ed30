/-
  SessionAdds: for all sessions, names and scripts the law returns true, and its arguments read as before. No conditions beyond the row's own: the listed package-level variables hold what the program's text lays (tied).
-/
import Derived.Test.YtclgllmipcbagaaGreatDoorSAk11
import Derived.Test.YtclgllmipcbagaaGreatDoorSAk12
import Derived.Test.YtclgllmipcbagaaGreatDoorSAk13
import Derived.Test.YtclgllmipcbagaaGreatDoorSAk14
import Derived.Test.YtclgllmipcbagaaGreatDoorSAk15
namespace Go.Proofs.YtclgllmipcbagaaGreatDoor.SessionAddsLaw
open Go.ChangeShapes Go.WideShapes Go.ChangeAt Go.RowKit
set_option linter.unusedVariables false
set_option linter.unusedSimpArgs false
set_option maxRecDepth 100000
set_option maxHeartbeats 16000000
theorem proved:Rows.SessionAddsCardSaid:=
 Claim7.holds_tied_plain_at .later [] [.data,.data,.data,.data,.sentinel,.sentinel,.pinned] true (true, "40fd7c9d77945aea60ce38604d890a1f576dcfdeedf5cfb55ac1d8be6105ecf7") true over (fun _ h=>by cases h) f_wfText (fun _ h=>by cases h) sessionAdds_row_tie rfl ⟨rfl,rfl⟩ pf_main rfl
  (fun f fn hf hfn=>by
    obtain rfl:f=5:=Option.some.inj (f_fn.symm.trans hf) |>.symm;obtain rfl:fn=Tryz.f5:=(Option.some.inj (Tryz.func5.symm.trans hfn)).symm;exact⟨pf_looks,fun j t ht=>by
     rw[Tryz.params5]at ht;have hm:t∈[25,9,29]:=by simpa using Array.mem_of_getElem? ht
     have hall:([25,9,29].all fun u=> !Tryz.prog.wantsStandIn u)=true:=by kernel_rfl
     exact(show Tryz.prog.wantsStandIn t=false by simpa using List.all_eq_true.1 hall t hm)⟩)
  f_goes
end Go.Proofs.YtclgllmipcbagaaGreatDoor.SessionAddsLaw
#print axioms Go.Proofs.YtclgllmipcbagaaGreatDoor.SessionAddsLaw.proved
