/-
  Contracts of the reference for graphs (sandpileref08), third part.
-/
import Derived.Test.YtlhbgainpeehoaaR08b
namespace Go.Proofs.Ytlhbgainpeehoaa
open Go.RowKit

set_option maxHeartbeats 1000000 in
theorem r08_Valence (g : G) (gv : Value) (v : Int) (w : World) (hg : GrR w gv g) (hk : Gok g) :
    Calls Try.prog 32 #[gv, .int .i64 v] w fun e w' => e = .returned (.int .i64 (valence g v)) ∧ Below w.heap.size w w' := by
  have hg' := hg
  obtain ⟨ev, rfl, _⟩ := hg'
  have hn := hk.n
  go_enter Try.func32, Try.ntmps32
  go_wp2
  go_loopw [5, 6] (fun t i wr => ∃ k : Nat, k ≤ g.n.toNat ∧ i = .int .i64 k ∧ t = .int .i64 (sumTo (valTerm g v) k) ∧
      Below (w.alloc (.cells #[.int .i64 g.n, ev] 24)).heap.size (w.alloc (.cells #[.int .i64 g.n, ev] 24)) wr)
    (fun _ i _ => g.n.toNat - (intOf i).toNat)
  case atStart => exact ⟨0, Nat.zero_le _, rfl, rfl, Below.refl _ _⟩
  case round =>
    obtain ⟨k, hkn, rfl, rfl, hB⟩ := hrel
    obtain ⟨r1, r2⟩ := bcell hB
    have hBw : Below w.heap.size w wr := up (by go_grown) hB
    have hgr := hid (hg.below hBw)
    have hbd := hk.valence_bd v k hkn
    have hbt := hk.btw_bd k v
    by_cases hlt : k < g.n.toNat
    · have hlt' : (k : Int) < g.n := by omega
      by_cases hv : (k : Int) = v
      · have hT : Hid (sumTo (valTerm g v) (k + 1) = sumTo (valTerm g v) k) := by show _ = _; simp [sumTo, valTerm, hv]
        have HV := hid hv
        have hv2 : ((k : Int) != v) = false := by simp [hv]
        clear hv
        go_wp2
        go_roundw
        case rel => exact ⟨k + 1, by omega, by go_num, by rw [hT.out], hB⟩
        case measure => simp [intOf]; omega
      · have hT : Hid (sumTo (valTerm g v) (k + 1) = sumTo (valTerm g v) k + btw g k v) := by show _ = _; simp [sumTo, valTerm, hv]
        go_wp2_with (go_at_call 64; refine (r08_Between g _ _ _ _ hgr.out).mono ?_; rintro e w' ⟨rfl, hB'⟩)
        go_roundw
        case rel => exact ⟨k + 1, by omega, by go_num, by rw [hT.out], up hB hB'⟩
        case measure => simp [intOf]; omega
    · have hlt' : ¬ (k : Int) < g.n := by omega
      obtain rfl : k = g.n.toNat := by omega
      go_wp2
      go_ret
      exact ⟨rfl, hBw⟩

end Go.Proofs.Ytlhbgainpeehoaa
