/-
  Plain definitions and laws: events and picks of a schedule.
-/
import Derived.Test.YtlhbgainpeehoaaSpec2
import Derived.Test.YtlhbgainpeehoaaLib2
namespace Go.Proofs.Ytlhbgainpeehoaa
open Go.RowKit

/-- v is a slice of pairs that holds ps in w. -/
def PairsR (w : World) (v : Value) (ps : List (Int × Int)) : Prop :=
  ∃ a cap, v = .slice a ps.length cap ∧ ps.length ≤ cap ∧ cap ≤ 9223372036854775807 ∧ ps.length * 16 ≤ 140737488355328 ∧ CellsAt w a (pairCells ps)

theorem PairsR.below {w w' : World} {v : Value} {ps : List (Int × Int)} (h : PairsR w v ps) (hb : Below w.heap.size w w') : PairsR w' v ps := by
  obtain ⟨a, cap, h1, h2, h3, h4, h5⟩ := h
  exact ⟨a, cap, h1, h2, h3, h4, h5.below hb⟩

theorem pairCells_length (ps : List (Int × Int)) : (pairCells ps).length = ps.length * 2 := by
  induction ps with
  | nil => rfl
  | cons x ps ih => simp only [pairCells, List.flatMap_cons, List.length_append, List.length_cons, List.length_nil] at *; omega

theorem pairCells_get (ps : List (Int × Int)) : ∀ k, k < ps.length → (pairCells ps)[k * 2]? = some (.int .i64 (ps[k]?.getD (0, 0)).1) ∧ (pairCells ps)[k * 2 + 1]? = some (.int .i64 (ps[k]?.getD (0, 0)).2) := by
  induction ps with
  | nil => intro k hk; simp at hk
  | cons x ps ih =>
    intro k hk
    cases k with
    | zero => simp [pairCells]
    | succ k =>
      have h := ih k (by simpa using hk)
      have e : pairCells (x :: ps) = [.int .i64 x.1, .int .i64 x.2] ++ pairCells ps := rfl
      rw [e, List.getElem?_append_right (by simp; omega), List.getElem?_append_right (by simp; omega)]
      simp only [List.length_cons, List.length_nil, List.getElem?_cons_succ]
      rw [show (k + 1) * 2 - (0 + 1 + 1) = k * 2 by omega, show (k + 1) * 2 + 1 - (0 + 1 + 1) = k * 2 + 1 by omega]
      exact h

theorem CellsAt.pair {w : World} {a : Option Addr} {ps : List (Int × Int)} (h : CellsAt w a (pairCells ps)) (hk : 0 < ps.length) :
    ∃ b off, a = some ⟨b, off, none⟩ ∧ b < w.heap.size ∧ ∀ k, k < ps.length → w.cell? ⟨b, off + k * 2, none⟩ = some (.int .i64 (ps[k]?.getD (0, 0)).1) ∧
      w.cell? ⟨b, off + k * 2 + 1, none⟩ = some (.int .i64 (ps[k]?.getD (0, 0)).2) := by
  rcases h with h | ⟨b, off, rfl, hl, hc⟩
  · have := pairCells_length ps; rw [h] at this; simp at this; omega
  · refine ⟨b, off, rfl, hl, fun k hk => ?_⟩
    have hl2 := pairCells_length ps
    have := pairCells_get ps k hk
    exact ⟨by rw [hc (k * 2) (by omega)]; exact this.1, by rw [Nat.add_assoc, hc (k * 2 + 1) (by omega)]; exact this.2⟩

/-- An owned row reads as its cells. -/
theorem owns_at {w : World} {base : Nat} {e : TypeId} {size : Nat} {v : Value} {n : Nat} {xs : List Value} (h : w.ownsRow base e size v n xs) :
    ∃ a cap, v = .slice a n cap ∧ n ≤ cap ∧ cap ≤ 9223372036854775807 ∧ CellsAt w a xs := by
  have hx := h.1
  rcases h.2 with ⟨rfl, rfl⟩ | ⟨g, cap, cur, rfl, hb, hg, hn, hm, hs, ht⟩
  · exact ⟨none, 0, rfl, Nat.le_refl _, by omega, .inl (List.eq_nil_of_length_eq_zero (by simpa using hx))⟩
  · refine ⟨some ⟨g, 0, none⟩, cap, rfl, hn, by unfold maxLen at hm; omega, .inr ⟨g, 0, rfl, (owns_lt h).2, fun i hi => ?_⟩⟩
    have := h.cellAt i (by rw [← hx]; exact hi)
    rwa [Nat.zero_add]

theorem owns_pairs {w : World} {base : Nat} {e : TypeId} {v : Value} {ps : List (Int × Int)} (h : w.ownsRow base e 2 v ps.length (pairCells ps)) (hb : ps.length * 16 ≤ 140737488355328) : PairsR w v ps := by
  obtain ⟨a, cap, h1, h2, h3, h4⟩ := owns_at h
  exact ⟨a, cap, h1, h2, h3, hb, h4⟩

theorem owns_ints {w : World} {base : Nat} {e : TypeId} {v : Value} {xs : List Int} (h : w.ownsRow base e 1 v xs.length (xs.map (Value.int .i64))) (hb : xs.length * 8 ≤ 140737488355328) : IntsR w v xs := by
  obtain ⟨a, cap, h1, h2, h3, h4⟩ := owns_at h
  exact ⟨a, cap, h1, h2, h3, hb, h4⟩

/-- The error of an event: (kind, value). -/
def evErr (g : G) (x : Int × Int) : Int := if x.1 ≠ 0 ∧ x.1 ≠ 1 then 1 else if x.2 < 0 ∨ x.1 = 1 ∧ ¬ vtx g.n x.2 = true then 2 else 0
def evAt (g : G) (l : List (Int × Int)) (i : Nat) : Int := evErr g (l[i]?.getD (0, 0))
def evsErr (g : G) (l : List (Int × Int)) : Int := if 4096 < l.length then 5 else firstNZ (evAt g l) 0 l.length
/-- The error of picks. -/
def pkErr (l : List Int) : Int := if 4096 < l.length then 5 else if l.length = 0 then 14 else if l.all (fun k => decide (0 ≤ k)) then 0 else 2
/-- Are there few of them, or too many? -/
def fewB (n : Nat) : Bool := decide (n ≤ 60) || (decide (4096 < n) && decide (n ≤ 8192))
def schErr (g : G) (l : List (Int × Int)) : Int := if checkErr g ≠ 0 then checkErr g else evsErr g l
/-- The error of a configuration and picks. -/
def givErr (g : G) (q : Int) (ds : List Int) (l : List Int) : Int := if cfgErr g q ds ≠ 0 then cfgErr g q ds else pkErr l

end Go.Proofs.Ytlhbgainpeehoaa
