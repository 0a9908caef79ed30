/-
  From what an argument reads as to the shapes of this proof: plans; contract: few.
-/
import Derived.Test.YtbjoblkigbphhaaGreatRd
import Derived.Test.YtbjoblkigbphhaaGreatP23
namespace Go.Proofs.YtbjoblkigbphhaaGreat
open Go.ChangeShapes Go.WideShapes Go.ChangeAt Go.RowKit Go.Deep Go.Joins
end Go.Proofs.YtbjoblkigbphhaaGreat

namespace Go.Proofs.YtbjoblkigbphhaaGreat
open Go.RowKit
end Go.Proofs.YtbjoblkigbphhaaGreat
