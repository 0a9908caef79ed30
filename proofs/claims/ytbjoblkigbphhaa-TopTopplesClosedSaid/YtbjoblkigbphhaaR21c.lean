/-
  Contracts of the reference for schedules: Settle.
-/
import Derived.Test.YtbjoblkigbphhaaR21b
namespace Go.Proofs.Ytbjoblkigbphhaa
open Go.RowKit

end Go.Proofs.Ytbjoblkigbphhaa
