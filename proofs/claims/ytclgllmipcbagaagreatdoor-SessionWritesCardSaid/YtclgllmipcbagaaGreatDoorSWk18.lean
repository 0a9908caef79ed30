/-
  Parts of the proof: XUf4
-/
import Derived.Test.YtclgllmipcbagaaGreatDoorRows
import Derived.ProofKit
import Derived.JoinedOf
namespace Go.Proofs.YtclgllmipcbagaaGreatDoor
open Go.ChangeShapes Go.WideShapes Go.ChangeAt Go.RowKit
set_option linter.unusedVariables false
set_option linter.unusedSimpArgs false
set_option maxRecDepth 100000
set_option maxHeartbeats 16000000
theorem pf_main:Tryz.prog.mainIs=some (true,("40fd7c9d77945aea60ce38604d890a1f576dcfdeedf5cfb55ac1d8be6105ecf7" :String).toList):=by kernel_rfl
end Go.Proofs.YtclgllmipcbagaaGreatDoor
