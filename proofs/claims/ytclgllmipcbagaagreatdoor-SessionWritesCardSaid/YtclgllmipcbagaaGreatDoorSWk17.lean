/-
  Parts of the proof: XUf3
-/
import Derived.Test.YtclgllmipcbagaaGreatDoorRows
import Derived.ProofKit
import Derived.JoinedOf
import Derived.Test.YtclgllmipcbagaaGreatDoorCards
import Derived.SevenTiedAt
namespace Go.Proofs.YtclgllmipcbagaaGreatDoor
open Go.ChangeShapes Go.WideShapes Go.ChangeAt Go.RowKit
set_option linter.unusedVariables false
set_option linter.unusedSimpArgs false
set_option maxRecDepth 100000
set_option maxHeartbeats 16000000
theorem pf_looks:true=Tryz.prog.looks []:=by kernel_rfl
end Go.Proofs.YtclgllmipcbagaaGreatDoor
