/-
  Owned matrices: a row of rows.
-/
import Derived.Test.YtlhbgainpeehoaaSpec5
namespace Go.Proofs.Ytlhbgainpeehoaa
open Go.RowKit

theorem owns_elem {w : World} {base : Nat} {e : TypeId} {size g n cap : Nat} {xs : List Value} (h : w.ownsRow base e size (.slice (some ⟨g, 0, none⟩) n cap) n xs) : ∃ cur, w.heap[g]? = some (.cells cur e (0, 0)) := by
  rcases h.2 with ⟨h', _⟩ | ⟨g', cap', cur, h', _, hg, _⟩
  · simp at h'
  · simp only [Value.slice.injEq, Option.some.injEq, Addr.mk.injEq, and_true, true_and] at h'
    obtain ⟨rfl, _⟩ := h'
    exact ⟨cur, hg⟩
theorem owns_differ {w : World} {base base' : Nat} {e e' : TypeId} {size size' g g' n cap n' cap' : Nat} {xs xs' : List Value} (h : w.ownsRow base e size (.slice (some ⟨g, 0, none⟩) n cap) n xs)
    (h' : w.ownsRow base' e' size' (.slice (some ⟨g', 0, none⟩) n' cap') n' xs') (hne : e ≠ e') : g ≠ g' := by
  rintro rfl
  obtain ⟨c, hc⟩ := owns_elem h
  obtain ⟨c', hc'⟩ := owns_elem h'
  rw [hc] at hc'
  simp at hc'
  exact hne hc'.2

/-- v owns k rows of N integers each; row i lies in block bs i and holds f i. -/
structure OwnM (T1 T0 : TypeId) (w : World) (base : Nat) (v : Value) (N k : Nat) (bs : Nat → Nat) (f : Nat → Nat → Int) : Prop where
  outer : w.ownsRow base T1 1 v k ((List.range k).map fun i => Value.slice (some ⟨bs i, 0, none⟩) N N)
  inj : ∀ i j, i < k → j < k → bs i = bs j → i = j
  row : ∀ i, i < k → w.ownsRow base T0 1 (.slice (some ⟨bs i, 0, none⟩) N N) N ((vecOf N (f i)).map (Value.int .i64))

section
variable {T1 T0 : TypeId} {w w' : World} {base : Nat} {v : Value} {g cap N k : Nat} {bs : Nat → Nat} {f : Nat → Nat → Int}

theorem OwnM.kept (h : OwnM T1 T0 w base v N k bs f) {r : Option Nat} (hg : w.grownBy w' r) (ho : v.ownBlock = none ∨ v.ownBlock ≠ r) (hr : ∀ i, i < k → r ≠ some (bs i)) : OwnM T1 T0 w' base v N k bs f :=
  ⟨h.outer.kept hg ho, h.inj, fun i hi => (h.row i hi).kept hg (.inr (by simpa [Value.ownBlock] using fun e => hr i hi e.symm))⟩
theorem OwnM.below (h : OwnM T1 T0 w base v N k bs f) (hB : Below w.heap.size w w') : OwnM T1 T0 w' base v N k bs f :=
  ⟨owns_below h.outer hB, h.inj, fun i hi => owns_below (h.row i hi) hB⟩
theorem OwnM.rebase (h : OwnM T1 T0 w base v N k bs f) {base' : Nat} (hb : base' ≤ base) : OwnM T1 T0 w base' v N k bs f :=
  ⟨owns_base h.outer hb, h.inj, fun i hi => owns_base (h.row i hi) hb⟩
theorem OwnM.zero (T1 T0 : TypeId) (w : World) (base N : Nat) (bs : Nat → Nat) (f : Nat → Nat → Int) : OwnM T1 T0 w base (.slice none 0 0) N 0 bs f :=
  ⟨World.ownsRow_nil _ _ _ _, fun i j hi => by omega, fun i hi => by omega⟩
theorem OwnM.lt (h : OwnM T1 T0 w base v N k bs f) (i : Nat) (hi : i < k) : base ≤ bs i ∧ bs i < w.heap.size := owns_lt (h.row i hi)
/-- The cell of the outer row. -/
theorem OwnM.at (h : OwnM T1 T0 w base (.slice (some ⟨g, 0, none⟩) k cap) N k bs f) (i : Nat) (hi : i < k) : w.cell? ⟨g, i, none⟩ = some (.slice (some ⟨bs i, 0, none⟩) N N) := by
  rw [h.outer.cellAt i (by omega)]; simp [hi]
theorem OwnM.cell (h : OwnM T1 T0 w base v N k bs f) (i j : Nat) (hi : i < k) (hj : j < N) : w.cell? ⟨bs i, j, none⟩ = some (.int .i64 (f i j)) := by
  rw [owns_int (h.row i hi) j hj, vecOf_get _ _ _ hj]
theorem OwnM.frozen (h : OwnM T1 T0 w base v N k bs f) (i j : Nat) (hi : i < k) : w.frozen? ⟨bs i, j, none⟩ = false := (h.row i hi).frozenAt j
theorem OwnM.apart (h : OwnM T1 T0 w base (.slice (some ⟨g, 0, none⟩) k cap) N k bs f) (hT : T1 ≠ T0) (i : Nat) (hi : i < k) : g ≠ bs i := owns_differ h.outer (h.row i hi) hT
theorem OwnM.blk (h : OwnM T1 T0 w base v N k bs f) (hT : T1 ≠ T0) (i : Nat) (hi : i < k) : v.ownBlock ≠ some (bs i) := by
  intro e
  obtain ⟨g, cap, rfl, _⟩ := owns_some h.outer (by omega)
  simp only [Value.ownBlock, Option.some.injEq] at e
  exact h.apart hT i hi e
/-- A store into row i. -/
theorem OwnM.set (h : OwnM T1 T0 w base (.slice (some ⟨g, 0, none⟩) k cap) N k bs f) (hT : T1 ≠ T0) (i j : Nat) (hi : i < k) (x : Int) :
    OwnM T1 T0 (w.setCell ⟨bs i, j, none⟩ (.int .i64 x)) base (.slice (some ⟨g, 0, none⟩) k cap) N k bs (fun i' j' => if i' = i ∧ j' = j then x else f i' j') := by
  refine ⟨owns_other h.outer (h.apart hT i hi) _ _, h.inj, fun i' hi' => ?_⟩
  by_cases e : i' = i
  · subst e
    have h1 := owns_set (f := Value.int .i64) (h.row i' hi) j x
    rw [vecOf_set] at h1
    have h2 : vecOf N (fun q => if q = j then x else f i' q) = vecOf N (fun j' => if i' = i' ∧ j' = j then x else f i' j') := vecOf_congr _ _ _ fun q _ => by simp
    rw [h2] at h1
    exact h1
  · have h1 := owns_other (h.row i' hi') (fun e2 => e (h.inj i' i hi' hi e2)) j (.int .i64 x)
    have h2 : vecOf N (f i') = vecOf N (fun j' => if i' = i ∧ j' = j then x else f i' j') := vecOf_congr _ _ _ fun q _ => by simp [e]
    rw [h2] at h1
    exact h1
theorem OwnM.congr (h : OwnM T1 T0 w base v N k bs f) (f' : Nat → Nat → Int) (he : ∀ i j, i < k → j < N → f i j = f' i j) : OwnM T1 T0 w base v N k bs f' :=
  ⟨h.outer, h.inj, fun i hi => by rw [← vecOf_congr N (f i) (f' i) (fun j hj => he i j hi hj)]; exact h.row i hi⟩
/-- One more row, behind the append. -/
theorem OwnM.snoc {v' : Value} {b : Nat} (h : OwnM T1 T0 w base v N k bs f)
    (hnew : w'.ownsRow base T0 1 (.slice (some ⟨b, 0, none⟩) N N) N ((vecOf N (f k)).map (Value.int .i64))) (hb : ∀ i, i < k → bs i ≠ b)
    (hout : w'.ownsRow base T1 1 v' (k + 1) (((List.range k).map fun i => Value.slice (some ⟨bs i, 0, none⟩) N N) ++ [.slice (some ⟨b, 0, none⟩) N N]))
    (hrow : ∀ i, i < k → w'.ownsRow base T0 1 (.slice (some ⟨bs i, 0, none⟩) N N) N ((vecOf N (f i)).map (Value.int .i64))) :
    OwnM T1 T0 w' base v' N (k + 1) (fun i => if i < k then bs i else b) f := by
  refine ⟨?_, fun i j hi hj e => ?_, fun i hi => ?_⟩
  · have e : ((List.range (k + 1)).map fun i => Value.slice (some ⟨if i < k then bs i else b, 0, none⟩) N N) = ((List.range k).map fun i => Value.slice (some ⟨bs i, 0, none⟩) N N) ++ [.slice (some ⟨b, 0, none⟩) N N] := by
      rw [List.range_succ, List.map_append]
      congr 1
      · exact List.map_congr_left fun i hi => by rw [if_pos (List.mem_range.1 hi)]
      · simp
    rw [e]; exact hout
  · by_cases h1 : i < k
    · by_cases h2 : j < k
      · rw [if_pos h1, if_pos h2] at e; exact h.inj i j h1 h2 e
      · rw [if_pos h1, if_neg h2] at e; exact absurd e (hb i h1)
    · by_cases h2 : j < k
      · rw [if_neg h1, if_pos h2] at e; exact absurd e.symm (hb j h2)
      · omega
  · by_cases h1 : i < k
    · rw [if_pos h1]; exact hrow i h1
    · rw [if_neg h1]
      obtain rfl : i = k := by omega
      exact hnew
end

end Go.Proofs.Ytlhbgainpeehoaa
