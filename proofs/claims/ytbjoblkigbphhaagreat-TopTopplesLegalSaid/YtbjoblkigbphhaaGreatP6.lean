/-
  Contracts of the program's schedule: unstable, leave, take$1, ended.
-/
import Derived.Test.YtbjoblkigbphhaaGreatP5
namespace Go.Proofs.YtbjoblkigbphhaaGreat
set_option linter.unusedVariables false
open Go.RowKit

set_option maxRecDepth 100000 in
set_option maxHeartbeats 2000000 in
theorem p_unstable (g : G) (q : Int) (N : Nat) (hN : N ≤ 12) (L : Nat → Int) (b bl cl bv cv : Nat) (w : World) (hb : b < w.heap.size) (hbl : bl < w.heap.size) (hbv : bv < w.heap.size)
    (c2 : w.cell? ⟨b, 2, none⟩ = some (.int .i64 q)) (c3 : w.cell? ⟨b, 3, none⟩ = some (.slice (some ⟨bl, 0, none⟩) N cl)) (c5 : w.cell? ⟨b, 5, none⟩ = some (.slice (some ⟨bv, 0, none⟩) N cv))
    (hl : ∀ k, k < N → w.cell? ⟨bl, k, none⟩ = some (.int .i64 (L k))) (hv : ∀ k : Nat, k < N → w.cell? ⟨bv, k, none⟩ = some (.int .i64 (valence g k))) :
    Calls Tryz.prog 126 #[.pointer (some ⟨b, 0, none⟩)] w fun e w' => ∃ v, e = .returned v ∧
      w'.ownsRow w.heap.size 3 1 v (waitN g q N L).length ((waitN g q N L).map (Value.int .i64)) ∧ Below w.heap.size w w' := by
  have HL := hid hl
  have HV := hid hv
  clear hl hv
  unfold waitN
  go_enter Tryz.func126, Tryz.ntmps126
  go_wp2
  go_loopw [3, 11] (fun t i wr => ∃ k : Nat, k ≤ N ∧ i = .int .i64 k ∧
      wr.ownsRow w.heap.size 3 1 t (waitTo (isUnst g q L) k).length ((waitTo (isUnst g q L) k).map (Value.int .i64)) ∧ Below w.heap.size w wr)
    (fun _ i _ => N - (intOf i).toNat)
  case atStart => exact ⟨0, Nat.zero_le _, rfl, World.ownsRow_nil _ _ _ _, Below.refl _ _⟩
  case round =>
    obtain ⟨k, hkn, rfl, hown, hB⟩ := hrel
    by_cases hlt : k < N
    · have HS := hid (waitTo_succ (isUnst g q L) k)
      have HU : Hid (isUnst g q L k = (decide ((k : Int) ≠ q) && decide (valence g k ≤ L k))) := rfl
      have hln := waitTo_len (isUnst g q L) k
      have x1 := HL.out k hlt
      have x2 := HV.out k hlt
      generalize isUnst g q L = U at *
      obtain ⟨r1, r2⟩ := bcell hB
      have hk1 : (k : Int) < (N : Int) := by omega
      have hk0 : (0 : Int) ≤ (k : Int) := by omega
      generalize valence g k = x at *
      generalize L k = y at *
      by_cases hq : (k : Int) = q
      · have hq2 : ((k : Int) != q) = false := by simpa using hq
        have hu : Hid (U k = false) := by show _ = _; rw [HU.out]; simp [hq]
        clear hq
        go_wp2
        go_roundw
        case rel => exact ⟨k + 1, by omega, by go_num, by rw [HS.out, hu.out]; exact hown, hB⟩
        case measure => simp [intOf]; omega
      · have hq2 : ((k : Int) != q) = true := by simpa using hq
        clear hq
        by_cases hxy : x ≤ y
        · have hu : Hid (U k = true) := by show _ = _; rw [HU.out]; simp [hxy]; simpa using hq2
          have hs := hB.size
          go_wp2_with (at_builtin; refine wpList_app1 wr rfl _ _ 25 rfl 3 Tryz.underInts Tryz.infoInt w.heap.size _ (waitTo U k) hown k wr.heap.size rfl rfl rfl (by omega) (by omega) ?_; intro v' w2 hown2 hgr2 hbk)
          go_roundw
          case rel => exact ⟨k + 1, by omega, by go_num, by rw [HS.out, hu.out]; exact hown2, below_grown hB hs hgr2 hbk (Nat.le_refl _)⟩
          case measure => simp [intOf]; omega
        · have hu : Hid (U k = false) := by show _ = _; rw [HU.out]; simp; omega
          go_wp2
          go_roundw
          case rel => exact ⟨k + 1, by omega, by go_num, by rw [HS.out, hu.out]; exact hown, hB⟩
          case measure => simp [intOf]; omega
    · obtain rfl : k = N := by omega
      obtain ⟨r1, r2⟩ := bcell hB
      go_wp2
      go_ret
      exact ⟨_, rfl, hown, hB⟩

set_option maxRecDepth 100000 in
set_option maxHeartbeats 1000000 in
theorem p_take1 (N u : Nat) (hu : u < N) (b ba bl cl : Nat) (x n : Int) (w : World) (hb : b < w.heap.size) (hba : ba < w.heap.size) (_hbl : bl < w.heap.size)
    (ca : w.cell? ⟨ba, 0, none⟩ = some (.pointer (some ⟨b, 0, none⟩)))
    (c3 : w.cell? ⟨b, 3, none⟩ = some (.slice (some ⟨bl, 0, none⟩) N cl)) (hx : w.cell? ⟨bl, u, none⟩ = some (.int .i64 x)) (hf : w.frozen? ⟨bl, u, none⟩ = false)
    (h1 : -100000000000 ≤ x) (h2 : x ≤ 100000000000) (h3 : 0 ≤ n) (h4 : n ≤ 100000) :
    Calls Tryz.prog 129 #[.int .i64 u, .int .i64 n, .pointer (some ⟨ba, 0, none⟩)] w fun e w' => e = .returned (.tuple #[]) ∧ w.setCell ⟨bl, u, none⟩ (.int .i64 (x + n)) = w' := by
  have hu1 : (u : Int) < (N : Int) := by omega
  have hu0 : (0 : Int) ≤ (u : Int) := by omega
  go_enter Tryz.func129, Tryz.ntmps129
  go_wp2
  go_end0
  exact ⟨rfl, rfl⟩

set_option maxRecDepth 100000 in
set_option maxHeartbeats 1000000 in
theorem p_ended (N q : Nat) (hq : q < N) (b bl cl : Nat) (x : Int) (done : Bool) (w : World) (hb : b < w.heap.size) (hbl : bl < w.heap.size)
    (c2 : w.cell? ⟨b, 2, none⟩ = some (.int .i64 q)) (c3 : w.cell? ⟨b, 3, none⟩ = some (.slice (some ⟨bl, 0, none⟩) N cl)) (hx : w.cell? ⟨bl, q, none⟩ = some (.int .i64 x)) :
    Calls Tryz.prog 41 #[.pointer (some ⟨b, 0, none⟩), .bool done] w fun e w' => e = .returned (.int .i64 (if done then (if 1048576 < x then 11 else 0) else 12)) ∧ Below w.heap.size w w' := by
  have hq1 : (q : Int) < (N : Int) := by omega
  have hq0 : (0 : Int) ≤ (q : Int) := by omega
  cases done
  · go_enter Tryz.func41, Tryz.ntmps41
    go_wp2
    go_ret
    exact ⟨rfl, Below.refl _ _⟩
  · by_cases h : 1048576 < x
    all_goals
      simp only [h, if_true, if_false]
      go_enter Tryz.func41, Tryz.ntmps41
      go_wp2
      go_quiet (fail)
      go_wp2
      go_ret
      exact ⟨rfl, below_dN (Below.refl _ _) _⟩

set_option maxRecDepth 100000 in
set_option maxHeartbeats 2000000 in
theorem p_leave (N v : Nat) (hv : v < N) (b bl cl bt ct bv cv : Nat) (x y z : Int) (w : World) (_hb : b < w.heap.size) (_hbl : bl < w.heap.size) (_hbt : bt < w.heap.size) (_hbv : bv < w.heap.size)
    (n1 : b ≠ bl) (n2 : b ≠ bt) (n3 : bl ≠ bt)
    (c3 : w.cell? ⟨b, 3, none⟩ = some (.slice (some ⟨bl, 0, none⟩) N cl)) (c4 : w.cell? ⟨b, 4, none⟩ = some (.slice (some ⟨bt, 0, none⟩) N ct)) (c5 : w.cell? ⟨b, 5, none⟩ = some (.slice (some ⟨bv, 0, none⟩) N cv))
    (hx : w.cell? ⟨bl, v, none⟩ = some (.int .i64 x)) (hy : w.cell? ⟨bv, v, none⟩ = some (.int .i64 y)) (hz : w.cell? ⟨bt, v, none⟩ = some (.int .i64 z))
    (f1 : w.frozen? ⟨bl, v, none⟩ = false) (f2 : w.frozen? ⟨bt, v, none⟩ = false)
    (h1 : -100000000000 ≤ x) (h2 : x ≤ 100000000000) (h3 : 0 ≤ y) (h4 : y ≤ 100000) (h5 : 0 ≤ z) (h6 : z ≤ 100000000000) :
    Calls Tryz.prog 127 #[.pointer (some ⟨b, 0, none⟩), .int .i64 v] w fun e w' => e = .returned (.tuple #[]) ∧ (w.drew.setCell ⟨bl, v, none⟩ (.int .i64 (x - y))).setCell ⟨bt, v, none⟩ (.int .i64 (z + 1)) = w' := by
  have hv1 : (v : Int) < (N : Int) := by omega
  have hv0 : (0 : Int) ≤ (v : Int) := by omega
  go_enter Tryz.func127, Tryz.ntmps127
  go_wp2
  let S : World → Prop := fun w' => w'.cell? ⟨b, 3, none⟩ = some (.slice (some ⟨bl, 0, none⟩) N cl) ∧ w'.cell? ⟨b, 5, none⟩ = some (.slice (some ⟨bv, 0, none⟩) N cv) ∧ w'.cell? ⟨bl, v, none⟩ = some (.int .i64 x) ∧ w'.cell? ⟨bv, v, none⟩ = some (.int .i64 y)
  (refine wp_region_text 15 [0,1,2,3,4,5,6,7,8,9,10,11,12,13,14] S (by kernel_rfl) (by kernel_rfl) (by intro _ _ d _ _ h; cases d <;> exact h) ?hS ?_; rotate_left; simp only [List.map_cons, List.map_nil, List.getD_cons_zero, List.getD_cons_succ, List.drop_succ_cons, List.drop_zero])
  case hS => exact ⟨c3, c5, hx, hy⟩
  (repeat ((refine' wpSeq_take rfl _ (by rfl) ?_ ?_; rotate_left; focus (intro w' hS; (try dsimp only at hS); obtain ⟨s1, s2, s3, s4⟩ := hS; go_simp; (first | done | with_reducible rfl)); (try simp only [Act.put, List.setIfInBounds_toArray, List.set_cons_zero, List.set_cons_succ])); (try simp only [Act.put, List.setIfInBounds_toArray, List.set_cons_zero, List.set_cons_succ])))
  refine wpSeq_nil ?_
  clear S
  go_wp2
  go_end0
  exact ⟨rfl, rfl⟩

end Go.Proofs.YtbjoblkigbphhaaGreat
