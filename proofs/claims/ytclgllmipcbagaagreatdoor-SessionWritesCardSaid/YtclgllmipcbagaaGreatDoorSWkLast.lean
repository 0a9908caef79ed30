/-
  SessionWrites: for all commands and texts the law returns true, and its arguments read as before. No conditions beyond the row's own: the listed package-level variables hold what the program's text lays (tied).
-/
import Derived.Test.YtclgllmipcbagaaGreatDoorSWk16
import Derived.Test.YtclgllmipcbagaaGreatDoorSWk17
import Derived.Test.YtclgllmipcbagaaGreatDoorSWk18
import Derived.Test.YtclgllmipcbagaaGreatDoorSWk19
import Derived.Test.YtclgllmipcbagaaGreatDoorSWk20
namespace Go.Proofs.YtclgllmipcbagaaGreatDoor.SessionWritesLaw
open Go.ChangeShapes Go.WideShapes Go.ChangeAt Go.RowKit
set_option linter.unusedVariables false
set_option linter.unusedSimpArgs false
set_option maxRecDepth 100000
set_option maxHeartbeats 16000000
theorem proved:Rows.SessionWritesCardSaid:=
 Claim7.holds_tied_plain_at .later [] [.data,.data,.data,.data,.sentinel,.sentinel,.pinned] true (true, "40fd7c9d77945aea60ce38604d890a1f576dcfdeedf5cfb55ac1d8be6105ecf7") true over (fun _ h=>by cases h) f_wfText (fun _ h=>by cases h) sessionWrites_row_tie rfl ⟨rfl,rfl⟩ pf_main rfl
  (fun f fn hf hfn=>by
    obtain rfl:f=4:=Option.some.inj (f_fn.symm.trans hf) |>.symm;obtain rfl:fn=Tryz.f4:=(Option.some.inj (Tryz.func4.symm.trans hfn)).symm;exact⟨pf_looks,fun j t ht=>by
     rw[Tryz.params4]at ht;have hm:t∈[31,9]:=by simpa using Array.mem_of_getElem? ht
     have hall:([31,9].all fun u=> !Tryz.prog.wantsStandIn u)=true:=by kernel_rfl
     exact(show Tryz.prog.wantsStandIn t=false by simpa using List.all_eq_true.1 hall t hm)⟩)
  f_goes
end Go.Proofs.YtclgllmipcbagaaGreatDoor.SessionWritesLaw
#print axioms Go.Proofs.YtclgllmipcbagaaGreatDoor.SessionWritesLaw.proved
