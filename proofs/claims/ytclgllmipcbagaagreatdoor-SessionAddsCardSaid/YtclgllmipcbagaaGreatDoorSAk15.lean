/-
  Parts of the proof: XLawSAp7
-/
import Derived.Test.YtclgllmipcbagaaGreatDoorRows
import Derived.ProofKit
import Derived.JoinedOf
import Derived.Test.YtclgllmipcbagaaGreatDoorCards
import Derived.SevenTiedAt
namespace Go.Proofs.YtclgllmipcbagaaGreatDoor.SessionAddsLaw
open Go.ChangeShapes Go.WideShapes Go.ChangeAt Go.RowKit
set_option linter.unusedVariables false
set_option linter.unusedSimpArgs false
set_option maxRecDepth 100000
set_option maxHeartbeats 16000000
theorem f_wfText:Rows.sessionAddsRow.wfByText (OpenSpec.ofChange Rows.sessionAddsSpec)=true:=by kernel_rfl
theorem f_fn:Tryz.prog.funcNamed "sandpile/sandpilelaw59.SessionAdds" =some 5:=by kernel_rfl
end Go.Proofs.YtclgllmipcbagaaGreatDoor.SessionAddsLaw
