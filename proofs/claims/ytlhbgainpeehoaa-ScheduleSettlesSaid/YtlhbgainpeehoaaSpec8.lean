/-
  Forests: each vertex has a vertex of its part, never a greater one.
-/
import Derived.Test.YtlhbgainpeehoaaSpec7
namespace Go.Proofs.Ytlhbgainpeehoaa
set_option linter.unusedVariables false
open Go.RowKit

/-- The vertex that stands for the part of v, in n steps. -/
def rt (F : Nat → Nat) : Nat → Nat → Nat
  | 0, v => v
  | n + 1, v => if F v = v then v else rt F n (F v)
/-- The vertex that stands for the part of v. -/
def root (F : Nat → Nat) (v : Nat) : Nat := rt F v v

theorem rt_fuel (F : Nat → Nat) (hF : ∀ v, F v ≤ v) : ∀ m x, x ≤ m → rt F m x = rt F x x := by
  intro m
  induction m using Nat.strongRecOn with
  | ind m ih =>
    intro x hx
    cases x with
    | zero =>
      cases m with
      | zero => rfl
      | succ m => unfold rt; rw [if_pos (by have := hF 0; omega)]
    | succ x =>
      cases m with
      | zero => omega
      | succ m =>
        unfold rt
        by_cases h : F (x + 1) = x + 1
        · rw [if_pos h, if_pos h]
        · rw [if_neg h, if_neg h]
          have h2 := hF (x + 1)
          rw [ih m (by omega) _ (by omega), ih x (by omega) _ (by omega)]

theorem root_fix {F : Nat → Nat} {v : Nat} (h : F v = v) : root F v = v := by
  unfold root
  cases v with
  | zero => rfl
  | succ v => unfold rt; rw [if_pos h]
theorem root_step {F : Nat → Nat} (hF : ∀ v, F v ≤ v) (v : Nat) : root F v = root F (F v) := by
  by_cases h : F v = v
  · rw [h]
  · have h2 := hF v
    unfold root
    cases v with
    | zero => omega
    | succ v =>
      rw [rt, if_neg h, rt_fuel F hF v _ (by omega)]
theorem root_le {F : Nat → Nat} (hF : ∀ v, F v ≤ v) (v : Nat) : root F v ≤ v := by
  induction v using Nat.strongRecOn with
  | ind v ih =>
    by_cases h : F v = v
    · rw [root_fix h]; exact Nat.le_refl _
    · have h2 := hF v
      rw [root_step hF]
      have := ih (F v) (by omega)
      omega
theorem root_root {F : Nat → Nat} (hF : ∀ v, F v ≤ v) (v : Nat) : F (root F v) = root F v := by
  induction v using Nat.strongRecOn with
  | ind v ih =>
    by_cases h : F v = v
    · rw [root_fix h]; exact h
    · have h2 := hF v
      rw [root_step hF]
      exact ih (F v) (by omega)

/-- Two parts joined. -/
def joinF (F : Nat → Nat) (a b : Nat) : Nat → Nat := fun v => if v = max (root F a) (root F b) then min (root F a) (root F b) else F v
theorem joinF_le {F : Nat → Nat} (hF : ∀ v, F v ≤ v) (a b : Nat) : ∀ v, joinF F a b v ≤ v := by
  intro v
  unfold joinF
  split
  · omega
  · exact hF v
/-- The forest of the first k edges. -/
def forestTo (g : G) : Nat → Nat → Nat
  | 0 => fun v => v
  | k + 1 => joinF (forestTo g k) (g.es[k]?.getD default).a.toNat (g.es[k]?.getD default).b.toNat
theorem forestTo_le (g : G) : ∀ k v, forestTo g k v ≤ v
  | 0, v => Nat.le_refl _
  | k + 1, v => joinF_le (forestTo_le g k) _ _ v

/-- What stands in the block of a forest. -/
def fArr (F : Nat → Nat) : Array Value := #[.int .i64 (F 0), .int .i64 (F 1), .int .i64 (F 2), .int .i64 (F 3), .int .i64 (F 4), .int .i64 (F 5), .int .i64 (F 6), .int .i64 (F 7), .int .i64 (F 8), .int .i64 (F 9), .int .i64 (F 10), .int .i64 (F 11)]
theorem fArr_get (F : Nat → Nat) (i : Nat) (h : i < 12) : (fArr F)[i]? = some (.int .i64 (F i)) := by
  unfold fArr
  rcases i with _|_|_|_|_|_|_|_|_|_|_|_|i <;> first | rfl | omega
theorem fArr_set (F : Nat → Nat) (i x : Nat) (h : i < 12) : (fArr F).setIfInBounds i (.int .i64 (x : Int)) = fArr (fun v => if v = i then x else F v) := by
  unfold fArr
  rcases i with _|_|_|_|_|_|_|_|_|_|_|_|i <;> first | rfl | omega

end Go.Proofs.Ytlhbgainpeehoaa
