/-
  Contracts of the references: Valences, waiting, Waiting, One.
  Contracts of the references: waiting, Waiting.
-/
import Derived.Test.YtbjoblkigbphhaaGreatR21
import Derived.Test.YtbjoblkigbphhaaGreatSpec2
import Derived.Deep.RegionHeld3
namespace Go.Proofs.YtbjoblkigbphhaaGreat
open Go.RowKit

theorem Tryz.underInts : Tryz.prog.underlying 25 = some (.slice 3) := by kernel_rfl
theorem Tryz.underScript : Tryz.prog.underlying 27 = some (.slice 3) := by kernel_rfl
theorem Tryz.underDiv : Tryz.prog.underlying 26 = some (.slice 3) := by kernel_rfl
theorem Tryz.infoInt : (Tryz.prog.info? 3).map (fun i => (i.zero, i.size, i.bytes)) = some (some (.int .i64 0), 1, 8) := by kernel_rfl

/-- The valences. -/
def vals (g : G) (k : Nat) : List Int := vecOf k fun v => valence g v
theorem vals_succ (g : G) (k : Nat) : vals g (k + 1) = vals g k ++ [valence g k] := by simp [vals, vecOf, List.range_succ]

set_option maxRecDepth 100000 in
set_option maxHeartbeats 1000000 in
theorem r19_Valences (g : G) (gv : Value) (w : World) (hg : GrR w gv g) (hk : Gok g) :
    Calls Tryz.prog 28 #[gv] w fun e w' => ∃ v, e = .returned v ∧ w'.ownsRow w.heap.size 3 1 v (vals g g.n.toNat).length ((vals g g.n.toNat).map (Value.int .i64)) ∧ Below w.heap.size w w' := by
  have hg' := hg
  obtain ⟨ev, rfl, _⟩ := hg'
  obtain ⟨hn1, hn2⟩ := hk.n
  have hW : Below w.heap.size w (w.alloc (.cells #[.int .i64 g.n, ev] 24)) := by go_grown
  go_enter Tryz.func28, Tryz.ntmps28
  go_wp2
  go_loopw [3, 4] (fun t i wr => ∃ k : Nat, k ≤ g.n.toNat ∧ i = .int .i64 k ∧ wr.ownsRow (w.heap.size + 1) 3 1 t (vals g k).length ((vals g k).map (Value.int .i64)) ∧
      Below (w.heap.size + 1) (w.alloc (.cells #[.int .i64 g.n, ev] 24)) wr)
    (fun _ i _ => g.n.toNat - (intOf i).toNat)
  case atStart => exact ⟨0, Nat.zero_le _, rfl, World.ownsRow_nil _ _ _ _, Below.refl _ _⟩
  case round =>
    obtain ⟨k, hkn, rfl, hown, hB⟩ := hrel
    obtain ⟨r1, r2⟩ := bcellB hB
    have hBw : Below w.heap.size w wr := hW.trans (hB.mono (by omega))
    have hgr := hid (hg.below hBw)
    have hs : w.heap.size + 1 ≤ wr.heap.size := by have := hB.size; simpa using this
    by_cases hlt : k < g.n.toNat
    · have hlt' : (k : Int) < g.n := by omega
      have HS := hid (vals_succ g k)
      have hln : (vals g k).length ≤ 12 := by unfold vals; rw [vecOf_len]; omega
      go_wp2_with (first
        | (go_at_call 54; refine (r08_Valence g _ _ _ hgr.out hk).mono ?_; rintro e w1 ⟨rfl, hB1⟩; have hown1 := owns_below hown hB1; have hs1 := hB1.size)
        | (at_builtin; go_loud (refine wpList_app1 w1 rfl _ _ 25 rfl 3 Tryz.underInts Tryz.infoInt (w.heap.size + 1) _ (vals g k) hown1 (valence g k) w1.heap.size rfl rfl rfl (by omega) (by omega) ?_); intro v' w2 hown2 hgr2 hbk))
      go_roundw
      case rel =>
        refine ⟨k + 1, by omega, by go_num, by rw [HS.out]; exact hown2, below_grown (hB.trans (hB1.mono (by omega))) (by omega) hgr2 hbk (Nat.le_refl _)⟩
      case measure => simp [intOf]; omega
    · have hlt' : ¬ (k : Int) < g.n := by omega
      obtain rfl : k = g.n.toNat := by omega
      go_wp2
      go_ret
      exact ⟨_, rfl, owns_base hown (by omega), hBw⟩

end Go.Proofs.YtbjoblkigbphhaaGreat

namespace Go.Proofs.YtbjoblkigbphhaaGreat
open Go.RowKit

end Go.Proofs.YtbjoblkigbphhaaGreat
