/-
  The reference: less, on pairs of numbers.
-/
import Derived.Test.YtemmepgfngkgmaaGreatDoorN35
namespace Go.Proofs.YtemmepgfngkgmaaGreatDoor
open Go.RowKit
set_option linter.unusedVariables false
set_option linter.unusedSimpArgs false

def lessB (a b c d : Int) : Bool := decide (a < c) || (decide (a = c) && decide (b < d))
theorem q_less (a b c d : Int) (w : World) : Calls Tryz.prog 89 #[.int .i64 a, .int .i64 b, .int .i64 c, .int .i64 d] w fun e w' => e = .returned (.bool (lessB a b c d)) ∧ w = w' := by
  unfold lessB
  by_cases h1 : a < c
  · rw [decide_eq_true h1, Bool.true_or]
    go_enter Tryz.func89, Tryz.ntmps89
    go_wp2_with fail
    go_ret
    exact ⟨rfl, rfl⟩
  · rw [decide_eq_false h1, Bool.false_or]
    by_cases h2 : a = c
    · have h2b : (a == c) = true := by simpa using h2
      rw [decide_eq_true h2, Bool.true_and]
      clear h2
      by_cases h3 : b < d
      · rw [decide_eq_true h3]
        go_enter Tryz.func89, Tryz.ntmps89
        go_wp2_with fail
        go_ret
        exact ⟨rfl, rfl⟩
      · rw [decide_eq_false h3]
        go_enter Tryz.func89, Tryz.ntmps89
        go_wp2_with fail
        go_ret
        exact ⟨rfl, rfl⟩
    · have h2b : (a == c) = false := by simpa using h2
      rw [decide_eq_false h2, Bool.false_and]
      clear h2
      go_enter Tryz.func89, Tryz.ntmps89
      go_wp2_with fail
      go_ret
      exact ⟨rfl, rfl⟩


end Go.Proofs.YtemmepgfngkgmaaGreatDoor
