/-
  Contracts of the references: Table, Rows.
-/
import Derived.Test.YtbjoblkigbphhaaGreatR18
import Derived.Test.YtbjoblkigbphhaaGreatSpec2
namespace Go.Proofs.YtbjoblkigbphhaaGreat
open Go.RowKit

theorem Tryz.underMat : Tryz.prog.underlying 59 = some (.slice 25) := by kernel_rfl
theorem Tryz.infoRow : (Tryz.prog.info? 25).map (fun i => (i.zero, i.size, i.bytes)) = some (some (.slice none 0 0), 1, 24) := by kernel_rfl

/-- A matrix is handed back; all that was there before is as it was. -/
def RetM (T1 T0 : TypeId) (w : World) (N : Nat) (f : Nat → Nat → Int) (e : Ending) (w' : World) : Prop := ∃ v bs, e = .returned v ∧ OwnM T1 T0 w' w.heap.size v N N bs f ∧ Below w.heap.size w w'

def rowSt (g : G) (v w i j : Nat) : Int := if i < v ∨ i = v ∧ j < w then rowsF g i j else 0

end Go.Proofs.YtbjoblkigbphhaaGreat
