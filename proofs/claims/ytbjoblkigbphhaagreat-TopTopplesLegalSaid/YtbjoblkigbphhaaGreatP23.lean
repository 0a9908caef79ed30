/-
  Contracts of the law's own functions: events, few; the walks of ScheduleChecks and ScheduleSettles.
-/
import Derived.Test.YtbjoblkigbphhaaGreatP21
import Derived.Test.YtbjoblkigbphhaaGreatR21c
namespace Go.Proofs.YtbjoblkigbphhaaGreat
open Go.RowKit

theorem pairs_news (w : World) (x y : Int) (e : TypeId) (j : Nat) (u : Value) (h : [Value.int .i64 x, Value.int .i64 y][j]? = some u) : (w.alloc (.cells #[.int .i64 x, .int .i64 y] e)).cell? ((⟨w.heap.size, 0, none⟩ : Addr).add j) = some u := by
  have e1 : (⟨w.heap.size, 0, none⟩ : Addr).add j = ⟨w.heap.size, j, none⟩ := by unfold Addr.add; split <;> simp_all
  rw [e1, World.cell?_alloc_new]; simpa using h

theorem ints_nil (w : World) : IntsR w (.slice none 0 0) [] := ⟨none, 0, rfl, Nat.le_refl _, by omega, by decide, .inl rfl⟩

end Go.Proofs.YtbjoblkigbphhaaGreat
