/-
  Parts of the proof: XLawSRp7
-/
import Derived.Test.YtclgllmipcbagaaGreatDoorRows
import Derived.ProofKit
import Derived.JoinedOf
import Derived.Test.YtclgllmipcbagaaGreatDoorCards
import Derived.SevenTiedAt
namespace Go.Proofs.YtclgllmipcbagaaGreatDoor.SessionReadsLaw
open Go.ChangeShapes Go.WideShapes Go.ChangeAt Go.RowKit
set_option linter.unusedVariables false
set_option linter.unusedSimpArgs false
set_option maxRecDepth 100000
set_option maxHeartbeats 16000000
theorem f_wfText:Rows.sessionReadsRow.wfByText (OpenSpec.ofChange Rows.sessionReadsSpec)=true:=by kernel_rfl
theorem f_fn:Tryz.prog.funcNamed "sandpile/sandpilelaw59.SessionReads" =some 9:=by kernel_rfl
end Go.Proofs.YtclgllmipcbagaaGreatDoor.SessionReadsLaw
