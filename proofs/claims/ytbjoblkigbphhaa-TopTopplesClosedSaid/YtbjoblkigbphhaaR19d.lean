/-
  Contracts of the references: Table, Rows.
-/
import Derived.Test.YtbjoblkigbphhaaR18
import Derived.Test.YtbjoblkigbphhaaSpec2
namespace Go.Proofs.Ytbjoblkigbphhaa
open Go.RowKit

theorem Try.underMat : Try.prog.underlying 69 = some (.slice 25) := by kernel_rfl
theorem Try.infoRow : (Try.prog.info? 25).map (fun i => (i.zero, i.size, i.bytes)) = some (some (.slice none 0 0), 1, 24) := by kernel_rfl

/-- A matrix is handed back; all that was there before is as it was. -/
def RetM (T1 T0 : TypeId) (w : World) (N : Nat) (f : Nat → Nat → Int) (e : Ending) (w' : World) : Prop := ∃ v bs, e = .returned v ∧ OwnM T1 T0 w' w.heap.size v N N bs f ∧ Below w.heap.size w w'

def rowSt (g : G) (v w i j : Nat) : Int := if i < v ∨ i = v ∧ j < w then rowsF g i j else 0

end Go.Proofs.Ytbjoblkigbphhaa
