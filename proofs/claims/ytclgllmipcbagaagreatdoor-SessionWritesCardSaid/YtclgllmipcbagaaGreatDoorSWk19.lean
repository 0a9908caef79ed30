/-
  Parts of the proof: XLawSWp6
-/
import Derived.Test.YtclgllmipcbagaaGreatDoorRows
import Derived.ProofKit
import Derived.JoinedOf
import Derived.Test.YtclgllmipcbagaaGreatDoorCards
import Derived.SevenTiedAt
namespace Go.Proofs.YtclgllmipcbagaaGreatDoor.SessionWritesLaw
open Go.ChangeShapes Go.WideShapes Go.ChangeAt Go.RowKit
set_option linter.unusedVariables false
set_option linter.unusedSimpArgs false
set_option maxRecDepth 100000
set_option maxHeartbeats 16000000
theorem f_goes:false=Rows.sessionWritesRow.goesBy Tryz.prog:=by kernel_rfl
end Go.Proofs.YtclgllmipcbagaaGreatDoor.SessionWritesLaw
