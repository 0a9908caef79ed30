/-
  Parts of the proof: XUf2
-/
import Derived.Test.YtclgllmipcbagaaGreatDoorRows
import Derived.ProofKit
import Derived.JoinedOf
namespace Go.Proofs.YtclgllmipcbagaaGreatDoor
open Go.ChangeShapes Go.WideShapes Go.ChangeAt Go.RowKit
set_option linter.unusedVariables false
set_option linter.unusedSimpArgs false
set_option maxRecDepth 100000
set_option maxHeartbeats 16000000
theorem pf_heard:Tryz.prog.stopsHeard=true:=by kernel_rfl
theorem pf_enter:Tryz.prog.mayEnter=true:=by kernel_rfl
end Go.Proofs.YtclgllmipcbagaaGreatDoor
