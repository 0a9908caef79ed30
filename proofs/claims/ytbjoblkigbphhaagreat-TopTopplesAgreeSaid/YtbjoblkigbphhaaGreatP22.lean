/-
  The law's examples: awake.
-/
import Derived.Test.YtbjoblkigbphhaaGreatP21
namespace Go.Proofs.YtbjoblkigbphhaaGreat
open Go.RowKit

/-- Rows are handed back that hold these numbers. -/
theorem aw_tri {w w1 : World} {r : Int ⊕ St} {L T : List Int} {e : Ending} (h : (match r with | .inr s => decide (vecOf 3 s.L = L) && decide (vecOf 3 s.T = T) | _ => false) = true) (hr : RetTri 3 w 3 r e w1) :
    Below w.heap.size w w1 ∧ ∃ b1 c1 b2 c2, e = .returned (.tuple #[.slice (some ⟨b1, 0, none⟩) 3 c1, .slice (some ⟨b2, 0, none⟩) 3 c2, .int .i64 0]) ∧ IntsR w1 (.slice (some ⟨b1, 0, none⟩) 3 c1) L ∧ IntsR w1 (.slice (some ⟨b2, 0, none⟩) 3 c2) T := by
  cases r with
  | inl k => cases h
  | inr s =>
    simp only [Bool.and_eq_true, decide_eq_true_eq] at h
    obtain ⟨hB, b1, c1, b2, c2, he, h1, h2⟩ := hr
    rw [h.1] at h1
    rw [h.2] at h2
    have l1 : L.length = 3 := by rw [← h.1, vecOf_len]
    have l2 : T.length = 3 := by rw [← h.2, vecOf_len]
    exact ⟨hB, b1, c1, b2, c2, he, owns_intsN h1 l1 (by omega), owns_intsN h2 l2 (by omega)⟩
theorem aw_quad {w w1 : World} {r : Int ⊕ Dr} {L T : List Int} {m : Int} {e : Ending} (h : (match r with | .inr s => decide (vecOf 3 s.L = L) && decide (vecOf 3 s.T = T) && decide (s.most = m) | _ => false) = true) (hr : RetQuad 3 w 3 r e w1) :
    Below w.heap.size w w1 ∧ ∃ b1 c1 b2 c2, e = .returned (.tuple #[.slice (some ⟨b1, 0, none⟩) 3 c1, .slice (some ⟨b2, 0, none⟩) 3 c2, .int .i64 m, .int .i64 0]) ∧ IntsR w1 (.slice (some ⟨b1, 0, none⟩) 3 c1) L ∧ IntsR w1 (.slice (some ⟨b2, 0, none⟩) 3 c2) T := by
  cases r with
  | inl k => cases h
  | inr s =>
    simp only [Bool.and_eq_true, decide_eq_true_eq] at h
    obtain ⟨hB, b1, c1, b2, c2, he, h1, h2⟩ := hr
    rw [h.1.1] at h1
    rw [h.1.2] at h2
    rw [h.2] at he
    have l1 : L.length = 3 := by rw [← h.1.1, vecOf_len]
    have l2 : T.length = 3 := by rw [← h.1.2, vecOf_len]
    exact ⟨hB, b1, c1, b2, c2, he, owns_intsN h1 l1 (by omega), owns_intsN h2 l2 (by omega)⟩
theorem aw_trc {w w1 : World} {r : Int ⊕ List Int} {L : List Int} {e : Ending} (hL : L.length = 3) (h : (match r with | .inr s => decide (s = L) | _ => false) = true) (hr : RetTrc 3 w r e w1) :
    Below w.heap.size w w1 ∧ ∃ b1 c1, e = .returned (.tuple #[.slice (some ⟨b1, 0, none⟩) 3 c1, .int .i64 0]) ∧ IntsR w1 (.slice (some ⟨b1, 0, none⟩) 3 c1) L := by
  cases r with
  | inl k => cases h
  | inr s =>
    obtain rfl := of_decide_eq_true h
    obtain ⟨hB, v, he, h1⟩ := hr
    obtain ⟨b1, c1, rfl, _⟩ := owns_some h1 (by omega)
    rw [hL] at he h1
    exact ⟨hB, b1, c1, he, owns_intsN h1 hL (by omega)⟩

theorem balloc' {W1 w : World} (h : Below W1.heap.size W1 w) (o : Obj) : Below W1.heap.size W1 (w.alloc o) := h.alloc h.size o
theorem ints_at {w : World} {xs : List Int} {arr : Array Value} {e : TypeId} {n b : Nat} (ha : arr = (xs.map (Value.int .i64)).toArray) (hn : n = xs.length) (h : xs.length ≤ 1000000) (hb : b = w.heap.size) : IntsR (w.alloc (.cells arr e)) (.slice (some ⟨b, 0, none⟩) n n) xs := by
  subst ha hb
  exact ints_new w xs e n hn h
theorem pairs_at {w : World} {ps : List (Int × Int)} {arr : Array Value} {e : TypeId} {n b : Nat} (ha : arr = (pairCells ps).toArray) (hn : n = ps.length) (h : ps.length ≤ 1000000) (hb : b = w.heap.size) : PairsR (w.alloc (.cells arr e)) (.slice (some ⟨b, 0, none⟩) n n) ps := by
  subst ha hb
  exact pairs_new w ps e n hn h
theorem IntsR.alloc {w : World} {v : Value} {xs : List Int} (h : IntsR w v xs) (o : Obj) : IntsR (w.alloc o) v xs := h.below ((Below.refl _ _).alloc (Nat.le_refl _) _)
theorem PairsR.alloc {w : World} {v : Value} {xs : List (Int × Int)} (h : PairsR w v xs) (o : Obj) : PairsR (w.alloc o) v xs := h.below ((Below.refl _ _).alloc (Nat.le_refl _) _)
theorem GrR.alloc {w : World} {v : Value} {g : G} (h : GrR w v g) (o : Obj) : GrR (w.alloc o) v g := h.below ((Below.refl _ _).alloc (Nat.le_refl _) _)

end Go.Proofs.YtbjoblkigbphhaaGreat
