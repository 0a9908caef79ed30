/-
  Contracts of the reference for graphs (sandpileref08): Size, small, Few; of the references for divisors and firing: Few.
-/
import Derived.Test.YtemmepgfngkgmaaGreatDoorR08
namespace Go.Proofs.YtemmepgfngkgmaaGreatDoor
open Go.RowKit

theorem owns_slice {w : World} {base : Nat} {e : TypeId} {size : Nat} {v : Value} {n : Nat} {xs : List Value} (h : w.ownsRow base e size v n xs) : ∃ a cap, v = .slice a n cap := by
  rcases h.2 with ⟨rfl, rfl⟩ | ⟨g, cap, cur, rfl, _⟩
  · exact ⟨_, _, rfl⟩
  · exact ⟨_, _, rfl⟩

/-- The number of single edges. -/
def sizeOf (g : G) : Int := (endsOf g.es).length

theorem Gok.sizeOf_bd {g : G} (h : Gok g) : 0 ≤ sizeOf g ∧ sizeOf g ≤ 7200 := by
  have h1 := endsOf_len g.es 50 (fun y hy => by have := h.mem hy; omega)
  have h2 := h.len
  unfold Go.Proofs.YtemmepgfngkgmaaGreatDoor.sizeOf
  omega

theorem r08_Size (g : G) (gv : Value) (w : World) (hg : GrR w gv g) (hk : Gok g) :
    Calls Tryz.prog 67 #[gv] w fun e w' => e = .returned (.int .i64 (sizeOf g)) ∧ Below w.heap.size w w' := by
  have hg' := hg
  obtain ⟨ev, rfl, _⟩ := hg'
  have hgr := hid (hg.below (w' := w.alloc (.cells #[.int .i64 g.n, ev] 24)) (by go_grown))
  go_enter Tryz.func67, Tryz.ntmps67
  go_wp2_with (go_at_call 114; refine (r08_Ends g _ _ hgr.out hk).mono ?_; rintro e w' ⟨v, rfl, hown, hB⟩; obtain ⟨a, cap, rfl⟩ := owns_slice hown)
  go_ret
  exact ⟨rfl, up (by go_grown) hB⟩

/-- Is a graph small, or wrong? -/
def smallB (g : G) (n s : Int) : Bool :=
  if 40 < g.es.length then false else if checkErr g ≠ 0 then true else decide (g.n ≤ n) && decide (sizeOf g ≤ s)

/-- Few vertices and single edges, and few chips. -/
def few18 (g : G) (ds : List Int) : Bool := smallB g 6 9 && decide (ds.length ≤ 24)

end Go.Proofs.YtemmepgfngkgmaaGreatDoor
