/-
  The state of a schedule in memory.
-/
import Derived.Test.YtlhbgainpeehoaaSpec11
namespace Go.Proofs.Ytlhbgainpeehoaa
open Go.RowKit

/-- Where the parts of a state lie, and what of it never turns. -/
structure Fr where
  W0 : World
  b : Nat
  bl : Nat
  cl : Nat
  bt : Nat
  ct : Nat
  bv : Nat
  cv : Nat
  N : Nat
  ev : Value
  g : G
  q : Nat
  t : TypeId

def stCells (f : Fr) (tail : List Value) : Array Value :=
  (Value.int .i64 f.g.n :: f.ev :: Value.int .i64 f.q :: Value.slice (some ⟨f.bl, 0, none⟩) f.N f.cl :: Value.slice (some ⟨f.bt, 0, none⟩) f.N f.ct :: Value.slice (some ⟨f.bv, 0, none⟩) f.N f.cv :: tail).toArray

structure StI (T0 : TypeId) (f : Fr) (w : World) (tail : List Value) (L T : Nat → Int) : Prop where
  blk : Blk w f.b (stCells f tail) f.t
  hb : f.W0.heap.size ≤ f.b
  left : w.ownsRow f.W0.heap.size T0 1 (.slice (some ⟨f.bl, 0, none⟩) f.N f.cl) f.N ((vecOf f.N L).map (Value.int .i64))
  times : w.ownsRow f.W0.heap.size T0 1 (.slice (some ⟨f.bt, 0, none⟩) f.N f.ct) f.N ((vecOf f.N T).map (Value.int .i64))
  vals : w.ownsRow f.W0.heap.size T0 1 (.slice (some ⟨f.bv, 0, none⟩) f.N f.cv) f.N ((vecOf f.N fun v => valence f.g v).map (Value.int .i64))
  n1 : f.b ≠ f.bl
  n2 : f.b ≠ f.bt
  n3 : f.b ≠ f.bv
  n4 : f.bl ≠ f.bt
  n5 : f.bl ≠ f.bv
  n6 : f.bt ≠ f.bv
  below : Below f.W0.heap.size f.W0 w
  edges : EdgesR f.W0 f.ev f.g.es
  gok : Gok f.g
  hn : f.g.n = f.N
  hq : f.q < f.N

section
variable {T0 : TypeId} {f : Fr} {w w' : World} {tail : List Value} {L T : Nat → Int}
theorem StI.N12 (h : StI T0 f w tail L T) : 1 ≤ f.N ∧ f.N ≤ 12 := by have := h.gok.n; have := h.hn; omega
theorem StI.mono (h : StI T0 f w tail L T) (hB : Below w.heap.size w w') : StI T0 f w' tail L T :=
  ⟨h.blk.below hB, h.hb, owns_below h.left hB, owns_below h.times hB, owns_below h.vals hB, h.n1, h.n2, h.n3, h.n4, h.n5, h.n6, up h.below hB, h.edges, h.gok, h.hn, h.hq⟩
theorem StI.drew (h : StI T0 f w tail L T) : StI T0 f w.drew tail L T := h.mono (Below.drew (Below.refl _ _))
theorem StI.setL (h : StI T0 f w tail L T) (u : Nat) (x : Int) : StI T0 f (w.setCell ⟨f.bl, u, none⟩ (.int .i64 x)) tail (fun i => if i = u then x else L i) T := by
  refine ⟨h.blk.other h.n1 u _, h.hb, ?_, owns_other h.times (Ne.symm h.n4) u _, owns_other h.vals (Ne.symm h.n5) u _, h.n1, h.n2, h.n3, h.n4, h.n5, h.n6, h.below.setCell (owns_lt h.left).1 _, h.edges, h.gok, h.hn, h.hq⟩
  have := owns_set h.left u x
  rwa [vecOf_set] at this
theorem StI.setT (h : StI T0 f w tail L T) (u : Nat) (x : Int) : StI T0 f (w.setCell ⟨f.bt, u, none⟩ (.int .i64 x)) tail L (fun i => if i = u then x else T i) := by
  refine ⟨h.blk.other h.n2 u _, h.hb, owns_other h.left h.n4 u _, ?_, owns_other h.vals (Ne.symm h.n6) u _, h.n1, h.n2, h.n3, h.n4, h.n5, h.n6, h.below.setCell (owns_lt h.times).1 _, h.edges, h.gok, h.hn, h.hq⟩
  have := owns_set h.times u x
  rwa [vecOf_set] at this
theorem StI.setTail (h : StI T0 f w tail L T) (i : Nat) (v : Value) : StI T0 f (w.setCell ⟨f.b, 6 + i, none⟩ v) (tail.set i v) L T := by
  refine ⟨?_, h.hb, owns_other h.left (Ne.symm h.n1) _ _, owns_other h.times (Ne.symm h.n2) _ _, owns_other h.vals (Ne.symm h.n3) _ _, h.n1, h.n2, h.n3, h.n4, h.n5, h.n6, h.below.setCell h.hb _, h.edges, h.gok, h.hn, h.hq⟩
  have := h.blk.set (6 + i) v
  unfold stCells at *
  rw [show 6 + i = i + 1 + 1 + 1 + 1 + 1 + 1 by omega] at *
  simpa [List.setIfInBounds_toArray] using this
theorem StI.congr {L' T' : Nat → Int} (h : StI T0 f w tail L T) (hL : ∀ u, u < f.N → L u = L' u) (hT : ∀ u, u < f.N → T u = T' u) : StI T0 f w tail L' T' := by
  have h3 := h.left
  have h4 := h.times
  rw [vecOf_congr _ _ _ hL] at h3
  rw [vecOf_congr _ _ _ hT] at h4
  exact ⟨h.blk, h.hb, h3, h4, h.vals, h.n1, h.n2, h.n3, h.n4, h.n5, h.n6, h.below, h.edges, h.gok, h.hn, h.hq⟩
theorem StI.lts (h : StI T0 f w tail L T) : f.b < w.heap.size ∧ f.bl < w.heap.size ∧ f.bt < w.heap.size ∧ f.bv < w.heap.size := ⟨h.blk.lt, (owns_lt h.left).2, (owns_lt h.times).2, (owns_lt h.vals).2⟩
theorem StI.cells (h : StI T0 f w tail L T) : w.cell? ⟨f.b, 0, none⟩ = some (.int .i64 f.g.n) ∧ w.cell? ⟨f.b, 1, none⟩ = some f.ev ∧ w.cell? ⟨f.b, 2, none⟩ = some (.int .i64 f.q) ∧
    w.cell? ⟨f.b, 3, none⟩ = some (.slice (some ⟨f.bl, 0, none⟩) f.N f.cl) ∧ w.cell? ⟨f.b, 4, none⟩ = some (.slice (some ⟨f.bt, 0, none⟩) f.N f.ct) ∧ w.cell? ⟨f.b, 5, none⟩ = some (.slice (some ⟨f.bv, 0, none⟩) f.N f.cv) :=
  ⟨h.blk.cell 0, h.blk.cell 1, h.blk.cell 2, h.blk.cell 3, h.blk.cell 4, h.blk.cell 5⟩
theorem StI.leftAt (h : StI T0 f w tail L T) (u : Nat) (hu : u < f.N) : w.cell? ⟨f.bl, u, none⟩ = some (.int .i64 (L u)) ∧ w.frozen? ⟨f.bl, u, none⟩ = false := by
  have c := owns_int h.left u hu
  rw [vecOf_get _ _ _ hu] at c
  exact ⟨c, h.left.frozenAt u⟩
theorem StI.timesAt (h : StI T0 f w tail L T) (u : Nat) (hu : u < f.N) : w.cell? ⟨f.bt, u, none⟩ = some (.int .i64 (T u)) ∧ w.frozen? ⟨f.bt, u, none⟩ = false := by
  have c := owns_int h.times u hu
  rw [vecOf_get _ _ _ hu] at c
  exact ⟨c, h.times.frozenAt u⟩
theorem StI.valsAt (h : StI T0 f w tail L T) (u : Nat) (hu : u < f.N) : w.cell? ⟨f.bv, u, none⟩ = some (.int .i64 (valence f.g u)) := by
  have c := owns_int h.vals u hu
  rw [vecOf_get _ _ _ hu] at c
  exact c
theorem StI.tailAt (h : StI T0 f w tail L T) (i : Nat) : w.cell? ⟨f.b, 6 + i, none⟩ = tail[i]? ∧ w.frozen? ⟨f.b, 6 + i, none⟩ = false := by
  refine ⟨?_, h.blk.frozen _⟩
  rw [h.blk.cell]
  unfold stCells
  rw [show 6 + i = i + 1 + 1 + 1 + 1 + 1 + 1 by omega]
  simp
end

end Go.Proofs.Ytlhbgainpeehoaa
