/-
  Contracts of the reference for schedules: Settle.
-/
import Derived.Test.YtbjoblkigbphhaaGreatR21b
namespace Go.Proofs.YtbjoblkigbphhaaGreat
open Go.RowKit

end Go.Proofs.YtbjoblkigbphhaaGreat
