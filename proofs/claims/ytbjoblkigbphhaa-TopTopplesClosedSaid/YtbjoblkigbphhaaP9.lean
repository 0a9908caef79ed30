/-
  Contract of the program's schedule: choose, over a sequential state.
-/
import Derived.Test.YtbjoblkigbphhaaP7
namespace Go.Proofs.Ytbjoblkigbphhaa
open Go.RowKit

/-- Choosing with so many rounds left, from the i-th on. -/
def chGo {σ : Type} (cnt : σ → Nat) (nxt : σ → Nat → σ) (picks : List Int) : Nat → Nat → σ → Option σ
  | 0, _, s => if cnt s = 0 then some s else none
  | f + 1, i, s => if cnt s = 0 then some s else chGo cnt nxt picks f (i + 1) (nxt s (pickAt picks i % (cnt s : Int)).toNat)
theorem chGo_done {σ : Type} (cnt : σ → Nat) (nxt : σ → Nat → σ) (picks : List Int) (f i : Nat) (s : σ) (h : cnt s = 0) : chGo cnt nxt picks f i s = some s := by
  cases f <;> simp [chGo, h]
theorem chGo_over {σ : Type} (cnt : σ → Nat) (nxt : σ → Nat → σ) (picks : List Int) (i : Nat) (s : σ) (h : cnt s ≠ 0) : chGo cnt nxt picks 0 i s = none := by simp [chGo, h]
theorem chGo_step {σ : Type} (cnt : σ → Nat) (nxt : σ → Nat → σ) (picks : List Int) (i : Nat) (s : σ) (h : cnt s ≠ 0) (hi : i < maxF) :
    chGo cnt nxt picks (maxF - i) i s = chGo cnt nxt picks (maxF - (i + 1)) (i + 1) (nxt s (pickAt picks i % (cnt s : Int)).toNat) := by
  obtain ⟨f, hf⟩ : ∃ f, maxF - i = f + 1 := ⟨maxF - i - 1, by omega⟩
  rw [hf, show maxF - (i + 1) = f by omega]
  simp [chGo, h]

/-- What choosing hands back, and what is there behind it. -/
def RetCh {σ : Type} (Inv : σ → World → Prop) (r : Option σ) (e : Ending) (w' : World) : Prop :=
  match r with
  | none => e = .returned (.bool false) ∧ ∃ s, Inv s w'
  | some s => e = .returned (.bool true) ∧ Inv s w'

end Go.Proofs.Ytbjoblkigbphhaa
