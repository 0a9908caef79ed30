/-
  Parts of the proof: XLawSWp7
-/
import Derived.Test.YtclgllmipcbagaaGreatDoorRows
import Derived.ProofKit
import Derived.JoinedOf
import Derived.Test.YtclgllmipcbagaaGreatDoorCards
import Derived.SevenTiedAt
namespace Go.Proofs.YtclgllmipcbagaaGreatDoor.SessionWritesLaw
open Go.ChangeShapes Go.WideShapes Go.ChangeAt Go.RowKit
set_option linter.unusedVariables false
set_option linter.unusedSimpArgs false
set_option maxRecDepth 100000
set_option maxHeartbeats 16000000
theorem f_wfText:Rows.sessionWritesRow.wfByText (OpenSpec.ofChange Rows.sessionWritesSpec)=true:=by kernel_rfl
theorem f_fn:Tryz.prog.funcNamed "sandpile/sandpilelaw59.SessionWrites" =some 4:=by kernel_rfl
end Go.Proofs.YtclgllmipcbagaaGreatDoor.SessionWritesLaw
