/-
  Contracts of the reference for schedules: Settled, Settle.
-/
import Derived.Test.YtbjoblkigbphhaaGreatR19d
import Derived.Deep.DeepCutAuto
import Derived.Deep.RegionHeld3
import Derived.Deep.AppendLies
namespace Go.Proofs.YtbjoblkigbphhaaGreat
open Go.RowKit

/-- What Settled hands back. -/
def RetSet (T0 : TypeId) (w : World) (N : Nat) (r : Option St) (e : Ending) (w' : World) : Prop :=
  Below w.heap.size w w' ∧ match r with
  | none => e = .returned (.tuple #[.slice none 0 0, .slice none 0 0, .bool false])
  | some s => ∃ b1 c1 b2 c2, e = .returned (.tuple #[.slice (some ⟨b1, 0, none⟩) N c1, .slice (some ⟨b2, 0, none⟩) N c2, .bool true]) ∧
      w'.ownsRow w.heap.size T0 1 (.slice (some ⟨b1, 0, none⟩) N c1) N ((vecOf N s.L).map (Value.int .i64)) ∧
      w'.ownsRow w.heap.size T0 1 (.slice (some ⟨b2, 0, none⟩) N c2) N ((vecOf N s.T).map (Value.int .i64))

end Go.Proofs.YtbjoblkigbphhaaGreat
