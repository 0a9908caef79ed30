/-
  Contracts of the reference for firing: One, Moved.
-/
import Derived.Test.YtbjoblkigbphhaaR19b
import Derived.Test.YtbjoblkigbphhaaSpec2
import Derived.Test.YtbjoblkigbphhaaReg
namespace Go.Proofs.Ytbjoblkigbphhaa
open Go.RowKit


end Go.Proofs.Ytbjoblkigbphhaa
