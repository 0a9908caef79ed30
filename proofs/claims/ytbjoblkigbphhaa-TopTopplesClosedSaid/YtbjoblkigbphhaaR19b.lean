/-
  Contracts of the references: Valences, waiting, Waiting, One.
  Contracts of the references: waiting, Waiting.
-/
import Derived.Test.YtbjoblkigbphhaaR21
import Derived.Test.YtbjoblkigbphhaaSpec2
import Derived.Deep.RegionHeld3
namespace Go.Proofs.Ytbjoblkigbphhaa
open Go.RowKit

theorem Try.underInts : Try.prog.underlying 25 = some (.slice 3) := by kernel_rfl
theorem Try.underScript : Try.prog.underlying 27 = some (.slice 3) := by kernel_rfl
theorem Try.underDiv : Try.prog.underlying 26 = some (.slice 3) := by kernel_rfl
theorem Try.infoInt : (Try.prog.info? 3).map (fun i => (i.zero, i.size, i.bytes)) = some (some (.int .i64 0), 1, 8) := by kernel_rfl

/-- The valences. -/
def vals (g : G) (k : Nat) : List Int := vecOf k fun v => valence g v
theorem vals_succ (g : G) (k : Nat) : vals g (k + 1) = vals g k ++ [valence g k] := by simp [vals, vecOf, List.range_succ]

end Go.Proofs.Ytbjoblkigbphhaa

namespace Go.Proofs.Ytbjoblkigbphhaa
open Go.RowKit

set_option maxRecDepth 100000 in
set_option maxHeartbeats 2000000 in
theorem r19_Waiting (g : G) (gv : Value) (q : Int) (ds : List Int) (dv : Value) (w : World) (hg : GrR w gv g) (hk : Gok g) (hd : IntsR w dv ds) (hl : g.n.toNat ≤ ds.length) :
    Calls Try.prog 24 #[gv, .int .i64 q, dv] w fun e w' => ∃ v, e = .returned v ∧
      w'.ownsRow w.heap.size 3 1 v (waitTo (unst q (fun u => valence g u) ds) g.n.toNat).length ((waitTo (unst q (fun u => valence g u) ds) g.n.toNat).map (Value.int .i64)) ∧ Below w.heap.size w w' := by
  have hg' := hg
  obtain ⟨ev, rfl, _⟩ := hg'
  obtain ⟨hn1, hn2⟩ := hk.n
  obtain ⟨a', cap', rfl, hcap', hcm', hlen', hc'⟩ := hd
  have hW : Below w.heap.size w (w.alloc (.cells #[.int .i64 g.n, ev] 24)) := by go_grown
  go_enter Try.func24, Try.ntmps24
  go_wp2
  go_loopw [7, 8] (fun t i wr => ∃ k : Nat, k ≤ g.n.toNat ∧ i = .int .i64 k ∧
      wr.ownsRow (w.heap.size + 1) 3 1 t (waitTo (unst q (fun u => valence g u) ds) k).length ((waitTo (unst q (fun u => valence g u) ds) k).map (Value.int .i64)) ∧
      Below (w.heap.size + 1) (w.alloc (.cells #[.int .i64 g.n, ev] 24)) wr)
    (fun _ i _ => g.n.toNat - (intOf i).toNat)
  case atStart => exact ⟨0, Nat.zero_le _, rfl, World.ownsRow_nil _ _ _ _, Below.refl _ _⟩
  case round =>
    obtain ⟨k, hkn, rfl, hown, hB⟩ := hrel
    obtain ⟨r1, r2⟩ := bcellB hB
    have hBw : Below w.heap.size w wr := hW.trans (hB.mono (by omega))
    have hgr := hid (hg.below hBw)
    have hs : w.heap.size + 1 ≤ wr.heap.size := by have := hB.size; simpa using this
    by_cases hlt : k < g.n.toNat
    · have hlt' : (k : Int) < g.n := by omega
      have HS := hid (waitTo_succ (unst q (fun u => valence g u) ds) k)
      have HU : Hid (unst q (fun u => valence g u) ds k = (decide ((k : Int) ≠ q) && decide (valence g k ≤ ds[k]?.getD 0))) := rfl
      have hln := waitTo_len (unst q (fun u => valence g u) ds) k
      generalize unst q (fun u => valence g u) ds = U at *
      obtain ⟨b', off', rfl, hb', hcc'⟩ := (hc'.below hBw).int (by omega)
      have c2 := hcc' k (by omega)
      clear hcc'
      have hk2 : (k : Int) < (ds.length : Int) := by omega
      have hk0 : (0 : Int) ≤ (k : Int) := by omega
      have HV : Hid (valence g k = valence g k) := rfl
      generalize ds[k]?.getD 0 = y at *
      by_cases hq : (k : Int) = q
      · have hq2 : ((k : Int) != q) = false := by simpa using hq
        have hu : Hid (U k = false) := by show _ = _; rw [HU.out]; simp [hq]
        clear hq
        go_wp2
        go_quiet (fail)
        go_wp2
        go_roundw
        case rel => exact ⟨k + 1, by omega, by go_num, by rw [HS.out, hu.out]; exact owns_dN hown _, below_dN hB _⟩
        case measure => simp [intOf]; omega
      · have hq2 : ((k : Int) != q) = true := by simpa using hq
        clear hq
        have hvk : Hid (Gok g) := hk
        have hs0 : w.heap.size < wr.heap.size := by omega
        go_wp2
        have e1 : wr.cell? ⟨w.heap.size, 0, none⟩ = some (.int .i64 g.n) := by rw [r1 _ _ (by omega)]; simp
        have e2 : wr.cell? ⟨w.heap.size, 1, none⟩ = some ev := by rw [r1 _ _ (by omega)]; simp
        go_region_held3 (fun w' => w'.cell? ⟨w.heap.size, 0, none⟩ = some (.int .i64 g.n) ∧ w'.cell? ⟨w.heap.size, 1, none⟩ = some ev ∧ w'.cell? ⟨b', off' + k, none⟩ = some (.int .i64 y))
          (first | exact ⟨e1, e2, c2⟩ | exact ⟨(r3 _ _ hs0).trans e1, (r3 _ _ hs0).trans e2, (r3 _ _ hb').trans c2⟩)
          ((go_at_call 49; refine (r08_Valence g _ _ _ (hgr.out.below (by exact below_dN (Below.refl _ _) 1)) hvk.out).mono ?_; rintro e w1 ⟨rfl, hB1⟩; obtain ⟨r3, r4⟩ := bcell hB1))
        have hB2 : Below (w.heap.size + 1) (w.alloc (.cells #[.int .i64 g.n, ev] 24)) w1 := hB.trans ((below_dN (Below.refl _ wr) 1).trans (hB1.mono (by show _ ≤ wr.heap.size; omega)))
        have hown1 := owns_below (owns_dN hown 1) hB1
        have hs1 := hB2.size
        simp only [World.size_alloc] at hs1
        clear hB hown hB1 r3 r4 e1 e2 c2 r1 r2
        by_cases hxy : valence g k ≤ y
        · have hu : Hid (U k = true) := by show _ = _; rw [HU.out]; simp [hxy]; simpa using hq2
          go_wp2_with (at_builtin; refine wpList_app1 w1 rfl _ _ 25 rfl 3 Try.underInts Try.infoInt (w.heap.size + 1) _ (waitTo U k) hown1 k w1.heap.size rfl rfl rfl (by omega) (by omega) ?_; intro v' w2 hown2 hgr2 hbk)
          go_roundw
          case rel => exact ⟨k + 1, by omega, by go_num, by rw [HS.out, hu.out]; exact hown2, below_grown hB2 hs1 hgr2 hbk (Nat.le_refl _)⟩
          case measure => simp [intOf]; omega
        · have hu : Hid (U k = false) := by show _ = _; rw [HU.out]; simp; omega
          go_wp2
          go_roundw
          case rel => exact ⟨k + 1, by omega, by go_num, by rw [HS.out, hu.out]; exact hown1, hB2⟩
          case measure => simp [intOf]; omega
    · have hlt' : ¬ (k : Int) < g.n := by omega
      obtain rfl : k = g.n.toNat := by omega
      go_wp2
      go_ret
      exact ⟨_, rfl, owns_base hown (by omega), hBw⟩

end Go.Proofs.Ytbjoblkigbphhaa
