/-
  Contracts of the reference for graphs (sandpileref08), second part.
-/
import Derived.Test.YtlhbgainpeehoaaR08
namespace Go.Proofs.Ytlhbgainpeehoaa
open Go.RowKit

set_option maxHeartbeats 1000000 in
theorem r08_Between (g : G) (gv : Value) (p q : Int) (w : World) (hg : GrR w gv g) :
    Calls Try.prog 64 #[gv, .int .i64 p, .int .i64 q] w fun e w' => e = .returned (.int .i64 (btw g p q)) ∧ Below w.heap.size w w' := by
  obtain ⟨ev, rfl, a, cap, rfl, hcap, hcm, hlen, hc⟩ := hg
  generalize hz : btw g p q = z
  unfold btw at hz
  have HZ := hid hz
  clear hz
  go_enter Try.func64, Try.ntmps64
  go_wp2
  go_loopw [7] (fun i wr => ∃ k : Nat, k ≤ g.es.length ∧ i = .int .i64 k ∧ Hid (bet (min p q) (max p q) (g.es.drop k) = z) ∧
      Below (w.alloc (.cells #[.int .i64 g.n, .slice a g.es.length cap] 24)).heap.size (w.alloc (.cells #[.int .i64 g.n, .slice a g.es.length cap] 24)) wr)
    (fun i _ => g.es.length - (intOf i).toNat)
  case atStart => exact ⟨0, Nat.zero_le _, rfl, HZ, Below.refl _ _⟩
  case round =>
    obtain ⟨k, hk, rfl, HZ, hB⟩ := hrel
    obtain ⟨r1, r2⟩ := bcell hB
    have hBw : Below w.heap.size w wr := up (by go_grown) hB
    by_cases hlt : k < g.es.length
    · have HS := hid (drop_step g.es k hlt)
      obtain ⟨b, off, rfl, hb, hc⟩ := (hc.below hBw).edge (by omega)
      obtain ⟨c1, c2, c3⟩ := hc k hlt
      clear hc
      have hs : w.heap.size + 1 ≤ wr.heap.size := by have := hB.size; simpa using this
      have hb' : ∀ k, b < wr.heap.size + k := fun k => by omega
      generalize g.es[k]?.getD default = x at *
      by_cases hpq : q < p
      all_goals
        go_wp2
        all_goals first
          | (go_ret
             refine ⟨ret_int ?_, by go_grown⟩
             have h1 := HZ.out; rw [HS.out] at h1; simp only [bet] at h1
             grind)
          | (go_roundw
             case rel =>
               refine ⟨k + 1, by omega, by go_num, hid ?_, by go_grown⟩
               have h1 := HZ.out; rw [HS.out] at h1; simp only [bet] at h1
               grind
             case measure => simp [intOf]; omega)
    · go_wp2
      go_ret
      refine ⟨ret_int ?_, hBw⟩
      rw [← HZ.out, List.drop_eq_nil_of_le (by omega)]; rfl

end Go.Proofs.Ytlhbgainpeehoaa
