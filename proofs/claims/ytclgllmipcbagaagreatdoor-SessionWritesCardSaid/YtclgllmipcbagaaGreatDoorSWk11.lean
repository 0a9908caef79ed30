/-
  Parts of the proof: XLawSWp1
-/
import Derived.Test.YtclgllmipcbagaaGreatDoorRows
import Derived.ProofKit
import Derived.JoinedOf
namespace Go.Proofs.YtclgllmipcbagaaGreatDoor.SessionWritesLaw
open Go.ChangeShapes Go.WideShapes Go.ChangeAt Go.RowKit
set_option linter.unusedVariables false
set_option linter.unusedSimpArgs false
set_option maxRecDepth 100000
set_option maxHeartbeats 16000000
theorem f_inPlace:(Rows.sessionWritesRow.inPlace==Tryz.prog.inPlace 4)=true:=by kernel_rfl
end Go.Proofs.YtclgllmipcbagaaGreatDoor.SessionWritesLaw
