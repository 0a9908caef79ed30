/-
  Contracts of the program's connect: grown, root, join, joined.
-/
import Derived.Test.YtlhbgainpeehoaaP2
import Derived.Test.YtlhbgainpeehoaaSpec6
import Derived.Deep.WholeRow
namespace Go.Proofs.Ytlhbgainpeehoaa
open Go.RowKit

set_option maxRecDepth 100000 in
set_option maxHeartbeats 1000000 in
theorem p_root (F : Nat → Nat) (hF : ∀ v, F v ≤ v) (b v : Nat) (hv : v < 12) (w : World) (hb : Blk w b (fArr F) 180) :
    Calls Try.prog 132 #[.pointer (some ⟨b, 0, none⟩), .int .i64 v] w fun e w' => e = .returned (.int .i64 (root F v)) ∧ w = w' := by
  obtain ⟨z, hz⟩ : ∃ z, root F v = z := ⟨_, rfl⟩
  rw [hz]
  have HZ := hid hz
  clear hz
  have hlt := hb.lt
  go_enter Try.func132, Try.ntmps132
  go_wp2
  go_loopw [1] (fun i wr => ∃ k : Nat, k < 12 ∧ i = .int .i64 k ∧ Hid (root F k = z) ∧ Hid (w = wr)) (fun i _ => (intOf i).toNat)
  case atStart => exact ⟨v, hv, rfl, HZ, rfl⟩
  case round =>
    obtain ⟨k, hk, rfl, HZ, HE⟩ := hrel
    obtain rfl := HE.out
    have c1 : w.cell? ⟨b, k, none⟩ = some (.int .i64 (F k)) := (hb.cell k).trans (fArr_get F k hk)
    have hk' : (k : Int) < 12 := by omega
    by_cases h : F k = k
    · have hn : (((F k : Nat) : Int) != (k : Int)) = false := by simp [h]
      go_wp2
      all_goals (go_ret; exact ⟨ret_int (by rw [← HZ.out, root_fix h]), rfl⟩)
    · have hn : (((F k : Nat) : Int) != (k : Int)) = true := by simp; omega
      have h2 := hF k
      have h3 : F k < k := by omega
      have h4 := hid (root_step hF k)
      generalize F k = fk at *
      clear h
      go_wp2
      go_roundw
      case rel => exact ⟨fk, by omega, rfl, hid (by rw [← HZ.out, h4.out]), True.intro⟩
      case measure => simp [intOf]; omega

set_option maxRecDepth 100000 in
set_option maxHeartbeats 1000000 in
theorem p_join (F : Nat → Nat) (hF : ∀ v, F v ≤ v) (b u v : Nat) (hu : u < 12) (hv : v < 12) (w : World) (hb : Blk w b (fArr F) 180) :
    Calls Try.prog 131 #[.pointer (some ⟨b, 0, none⟩), .int .i64 u, .int .i64 v] w
      fun e w' => e = .returned (.tuple #[]) ∧ w.setCell ⟨b, max (root F u) (root F v), none⟩ (.int .i64 ((min (root F u) (root F v) : Nat) : Int)) = w' := by
  have hlt := hb.lt
  have hru := root_le hF u
  have hrv := root_le hF v
  have cu : w.cell? ⟨b, root F u, none⟩ = some (.int .i64 (F (root F u))) := (hb.cell _).trans (fArr_get F _ (by omega))
  have cv : w.cell? ⟨b, root F v, none⟩ = some (.int .i64 (F (root F v))) := (hb.cell _).trans (fArr_get F _ (by omega))
  have fu := fun k => hb.frozen k
  have hu' : (root F u : Int) < 12 := by omega
  have hv' : (root F v : Int) < 12 := by omega
  by_cases h : root F u < root F v
  · rw [Nat.max_eq_right (by omega), Nat.min_eq_left (by omega)]
    go_enter Try.func131, Try.ntmps131
    go_wp2_with (go_at_call 132; refine (p_root F hF b _ ?_ _ hb).mono ?_; (first | exact hu | exact hv); rintro e w1 ⟨rfl, rfl⟩)
    go_end0
    exact ⟨rfl, rfl⟩
  · rw [Nat.max_eq_left (by omega), Nat.min_eq_right (by omega)]
    have h' : root F v ≤ root F u := by omega
    go_enter Try.func131, Try.ntmps131
    go_wp2_with (go_at_call 132; refine (p_root F hF b _ ?_ _ hb).mono ?_; (first | exact hu | exact hv); rintro e w1 ⟨rfl, rfl⟩)
    all_goals (go_end0; first | exact ⟨rfl, rfl⟩ | (refine ⟨rfl, ?_⟩; rw [show root F v = root F u by omega]))

theorem results_cell1 {P : Program} {fn : Func} {k : Nat} {t : TypeId} (h : fn.results = #[.cell k t]) {tmps : Array Value} {b : Nat} {v : Value} {w : World} (ht : tmps[k]?.getD undef = .pointer (some ⟨b, 0, none⟩))
    (hl : (loadVar t ⟨b, 0, none⟩).run P w = .ok v w) : (results fn tmps).run P w = .ok v w := by
  simp [results, h, ht, asAddr, hl]
theorem load_forest {w : World} {b : Nat} {cs : Array Value} (h : Blk w b cs 180) (hs : cs.size = 12) : (loadVar 180 ⟨b, 0, none⟩).run Try.prog w = .ok (.agg cs) w :=
  run_loadVar_row _ _ 180 180 cs (0, 0) _ h (by kernel_rfl : Try.prog.underlying 180 = some (.array 12 3)) rfl (by rw [hs]; kernel_rfl)

/-- The forest as it grows. -/
def idTo (k : Nat) : Nat → Nat := fun v => if v < k then v else 0
theorem idTo_set (k : Nat) (hk : k < 12) : (fArr (idTo k)).setIfInBounds k (.int .i64 (k : Int)) = fArr (idTo (k + 1)) := by
  rw [fArr_set _ _ _ hk]
  congr 1
  funext v
  unfold idTo
  grind

set_option maxRecDepth 100000 in
set_option maxHeartbeats 2000000 in
theorem p_grown (w : World) :
    Calls Try.prog 130 #[] w fun e w' => e = .returned (.agg (fArr fun v => v)) ∧ Below w.heap.size w w' := by
  have hfa : fArr (fun v => v) = #[.int .i64 0, .int .i64 1, .int .i64 2, .int .i64 3, .int .i64 4, .int .i64 5, .int .i64 6, .int .i64 7, .int .i64 8, .int .i64 9, .int .i64 10, .int .i64 11] := rfl
  rw [hfa]
  clear hfa
  go_enter Try.func130, Try.ntmps130
  go_wp2
  obtain ⟨W0, hW0⟩ : ∃ W : World, W = ((w.alloc (.cells #[.int .i64 0, .int .i64 0, .int .i64 0, .int .i64 0, .int .i64 0, .int .i64 0, .int .i64 0, .int .i64 0, .int .i64 0, .int .i64 0, .int .i64 0, .int .i64 0] 180)).alloc (.cells #[.int .i64 0, .int .i64 0, .int .i64 0, .int .i64 0, .int .i64 0, .int .i64 0, .int .i64 0, .int .i64 0, .int .i64 0, .int .i64 0, .int .i64 0, .int .i64 0] 180)) := ⟨_, rfl⟩
  rw [← hW0]
  have hb0 : Blk W0 w.heap.size #[.int .i64 0, .int .i64 0, .int .i64 0, .int .i64 0, .int .i64 0, .int .i64 0, .int .i64 0, .int .i64 0, .int .i64 0, .int .i64 0, .int .i64 0, .int .i64 0] 180 := by rw [hW0]; exact (Blk.new w _ _).alloc _
  have hb1 : Blk W0 (w.heap.size + 1) #[.int .i64 0, .int .i64 0, .int .i64 0, .int .i64 0, .int .i64 0, .int .i64 0, .int .i64 0, .int .i64 0, .int .i64 0, .int .i64 0, .int .i64 0, .int .i64 0] 180 := by rw [hW0]; have := Blk.new (w.alloc (.cells #[.int .i64 0, .int .i64 0, .int .i64 0, .int .i64 0, .int .i64 0, .int .i64 0, .int .i64 0, .int .i64 0, .int .i64 0, .int .i64 0, .int .i64 0, .int .i64 0] 180)) #[.int .i64 0, .int .i64 0, .int .i64 0, .int .i64 0, .int .i64 0, .int .i64 0, .int .i64 0, .int .i64 0, .int .i64 0, .int .i64 0, .int .i64 0, .int .i64 0] 180; simpa using this
  have hBw : Below w.heap.size w W0 := by rw [hW0]; go_grown
  clear hW0
  go_loopw [3] (fun i wr => ∃ k : Nat, k ≤ 12 ∧ i = .int .i64 k ∧ Blk wr w.heap.size #[.int .i64 0, .int .i64 0, .int .i64 0, .int .i64 0, .int .i64 0, .int .i64 0, .int .i64 0, .int .i64 0, .int .i64 0, .int .i64 0, .int .i64 0, .int .i64 0] 180 ∧ Blk wr (w.heap.size + 1) (fArr (idTo k)) 180 ∧ Below w.heap.size w wr) (fun i _ => 12 - (intOf i).toNat)
  case atStart => exact ⟨0, by omega, rfl, hb0, hb1, hBw⟩
  case round =>
    obtain ⟨k, hk, rfl, hb0, hb1, hB⟩ := hrel
    have l0 := hb0.lt
    have l1 := hb1.lt
    by_cases hlt : k < 12
    · have c1 : wr.cell? ⟨w.heap.size + 1, k, none⟩ = some (.int .i64 (idTo k k)) := (hb1.cell k).trans (fArr_get _ k hlt)
      have f1 := hb1.frozen k
      have hk' : (k : Int) < 12 := by omega
      go_wp2
      go_roundw
      case rel =>
        refine ⟨k + 1, by omega, by go_num, hb0.other (by omega) _ _, ?_, hB.setCell (by exact Nat.le_succ _) _⟩
        rw [← idTo_set k hlt]
        exact hb1.set k _
      case measure => simp [intOf]; omega
    · obtain rfl : k = 12 := by omega
      have c1 : ∀ i, i < 12 → wr.cell? ⟨w.heap.size + 1, i, none⟩ = some (.int .i64 i) := fun i hi => ((hb1.cell i).trans (fArr_get _ i hi)).trans (by simp [idTo, hi])
      have c0 : ∀ i, i < 12 → wr.cell? ⟨w.heap.size, i, none⟩ = some (.int .i64 0) := fun i hi => (hb0.cell i).trans (by rcases i with _|_|_|_|_|_|_|_|_|_|_|_|i <;> first | rfl | omega)
      have f0 := fun i => hb0.frozen i
      go_wp2
      refine bodyPost_ret (results_cell1 rfl rfl (load_forest (cs := #[.int .i64 0, .int .i64 1, .int .i64 2, .int .i64 3, .int .i64 4, .int .i64 5, .int .i64 6, .int .i64 7, .int .i64 8, .int .i64 9, .int .i64 10, .int .i64 11]) ?_ rfl)) rfl ⟨rfl, by go_grown⟩
      exact ((((((((((((hb0.set 0 _).set 1 _).set 2 _).set 3 _).set 4 _).set 5 _).set 6 _).set 7 _).set 8 _).set 9 _).set 10 _).set 11 _)

set_option maxRecDepth 100000 in
set_option maxHeartbeats 2000000 in
theorem p_joined (g : G) (gv : Value) (hk : Gok g) (w : World) (hg : GrR w gv g) :
    Calls Try.prog 128 #[gv] w fun e w' => e = .returned (.agg (fArr (forestTo g g.es.length))) ∧ Below w.heap.size w w' := by
  have hg' := hg
  obtain ⟨ev, rfl, a, cap, rfl, hcap, hcm, hlen, hc⟩ := hg'
  have hfa := hid (show fArr (fun v => v) = #[.int .i64 0, .int .i64 1, .int .i64 2, .int .i64 3, .int .i64 4, .int .i64 5, .int .i64 6, .int .i64 7, .int .i64 8, .int .i64 9, .int .i64 10, .int .i64 11] from rfl)
  have hend := hid (fun k (h : k < g.es.length) => hk.ends k h)
  obtain ⟨_, hn12⟩ := hk.n
  clear hk
  go_enter Try.func128, Try.ntmps128
  go_wp2_with (go_at_call 130; refine (p_grown _).mono ?_; rintro e w1 ⟨rfl, hB1⟩; rw [hfa.out]; obtain ⟨r1, r2⟩ := bcell hB1; have u0 := hB1.size; (simp only [World.size_alloc] at u0); have u1 : w.heap.size < w1.heap.size := (by omega))
  obtain ⟨W0, hW0⟩ : ∃ W : World, W = w1.alloc (.cells #[.int .i64 0, .int .i64 1, .int .i64 2, .int .i64 3, .int .i64 4, .int .i64 5, .int .i64 6, .int .i64 7, .int .i64 8, .int .i64 9, .int .i64 10, .int .i64 11] 180) := ⟨_, rfl⟩
  rw [← hW0]
  have hb3 : Blk W0 w1.heap.size (fArr (forestTo g 0)) 180 := by rw [hW0]; exact Blk.new w1 _ _
  have hb2 : Blk W0 (w.heap.size + 1) #[.int .i64 0, .int .i64 0, .int .i64 0, .int .i64 0, .int .i64 0, .int .i64 0, .int .i64 0, .int .i64 0, .int .i64 0, .int .i64 0, .int .i64 0, .int .i64 0] 180 := by
    rw [hW0]
    have := Blk.new (w.alloc (.cells #[.int .i64 g.n, .slice a g.es.length cap] 24)) #[.int .i64 0, .int .i64 0, .int .i64 0, .int .i64 0, .int .i64 0, .int .i64 0, .int .i64 0, .int .i64 0, .int .i64 0, .int .i64 0, .int .i64 0, .int .i64 0] 180
    exact (Blk.below (by simpa using this) hB1).alloc _
  have hBw : Below w.heap.size w W0 := by rw [hW0]; exact (up (by go_grown) hB1).alloc (by omega) _
  clear hW0 r1 r2 hB1
  have hne : w.heap.size + 1 ≠ w1.heap.size := by omega
  have hge : w.heap.size ≤ w1.heap.size := by omega
  generalize w1.heap.size = B3 at *
  go_loopw [10] (fun i wr => ∃ k : Nat, k ≤ g.es.length ∧ i = .int .i64 k ∧ Blk wr B3 (fArr (forestTo g k)) 180 ∧ Blk wr (w.heap.size + 1) #[.int .i64 0, .int .i64 0, .int .i64 0, .int .i64 0, .int .i64 0, .int .i64 0, .int .i64 0, .int .i64 0, .int .i64 0, .int .i64 0, .int .i64 0, .int .i64 0] 180 ∧ Below w.heap.size w wr) (fun i _ => g.es.length - (intOf i).toNat)
  case atStart => exact ⟨0, by omega, rfl, hb3, hb2, hBw⟩
  case round =>
    obtain ⟨k, hk, rfl, hb3, hb2, hB⟩ := hrel
    have l2 := hb2.lt
    have l3 := hb3.lt
    by_cases hlt : k < g.es.length
    · obtain ⟨b, off, rfl, hb, hc⟩ := (hc.below hB).edge (by omega)
      obtain ⟨q1, q2, q3⟩ := hc k hlt
      clear hc
      obtain ⟨e1, e2, e3, _, _⟩ := hend.out k hlt
      have hstep : Hid (forestTo g (k + 1) = joinF (forestTo g k) (g.es[k]?.getD default).a.toNat (g.es[k]?.getD default).b.toNat) := rfl
      generalize g.es[k]?.getD default = x at *
      obtain ⟨xa, xb, xm⟩ := x
      dsimp only at *
      obtain ⟨A, rfl⟩ : ∃ A : Nat, xa = A := ⟨xa.toNat, by omega⟩
      obtain ⟨B, rfl⟩ : ∃ B : Nat, xb = B := ⟨xb.toNat, by omega⟩
      have hb' : ∀ j, b < wr.heap.size + j := fun j => by omega
      have hA : A < 12 := by omega
      have hBB : B < 12 := by omega
      have hj : Hid (∀ w2, (wr.alloc (.cells #[.int .i64 A, .int .i64 B, .int .i64 xm] 128)).setCell ⟨B3, max (root (forestTo g k) A) (root (forestTo g k) B), none⟩ (.int .i64 ((min (root (forestTo g k) A) (root (forestTo g k) B) : Nat) : Int)) = w2 →
          Blk w2 B3 (fArr (forestTo g (k + 1))) 180 ∧ Blk w2 (w.heap.size + 1) #[.int .i64 0, .int .i64 0, .int .i64 0, .int .i64 0, .int .i64 0, .int .i64 0, .int .i64 0, .int .i64 0, .int .i64 0, .int .i64 0, .int .i64 0, .int .i64 0] 180 ∧ Below w.heap.size w w2) := by
        rintro w2 rfl
        refine ⟨?_, (hb2.alloc _).other hne _ _, (hB.alloc (by omega) _).setCell hge _⟩
        rw [hstep.out]
        have h1 := (hb3.alloc (.cells #[.int .i64 A, .int .i64 B, .int .i64 xm] 128)).set (max (root (forestTo g k) A) (root (forestTo g k) B)) (.int .i64 ((min (root (forestTo g k) A) (root (forestTo g k) B) : Nat) : Int))
        rw [fArr_set _ _ _ (by have := root_le (forestTo_le g k) A; have := root_le (forestTo_le g k) B; omega)] at h1
        exact h1
      go_wp2_with (go_at_call 131; refine (p_join (forestTo g k) (forestTo_le g k) B3 A B hA hBB _ (hb3.alloc _)).mono ?_; rintro e w2 ⟨rfl, hw2⟩; obtain ⟨j1, j2, j3⟩ := hj.out w2 hw2; clear hw2)
      go_roundw
      case rel =>
        exact ⟨k + 1, by omega, by go_num, j1, j2, j3⟩
      case measure => simp [intOf]; omega
    · obtain rfl : k = g.es.length := by omega
      clear hend hfa
      obtain ⟨F, hF⟩ : ∃ F, F = forestTo g g.es.length := ⟨_, rfl⟩
      rw [← hF] at hb3
      have HF := hid hF
      clear hF
      have c1 := fun i (hi : i < 12) => (hb3.cell i).trans (fArr_get _ i hi)
      have c0 : ∀ i, i < 12 → wr.cell? ⟨w.heap.size + 1, i, none⟩ = some (.int .i64 0) := fun i hi => (hb2.cell i).trans (by rcases i with _|_|_|_|_|_|_|_|_|_|_|_|i <;> first | rfl | omega)
      have f0 := fun i => hb2.frozen i
      go_wp2
      refine bodyPost_ret (results_cell1 rfl rfl (load_forest (cs := fArr F) ?_ rfl)) rfl ⟨by rw [HF.out], by go_grown⟩
      have h := ((((((((((((hb2.set 0 (.int .i64 (F 0))).set 1 (.int .i64 (F 1))).set 2 (.int .i64 (F 2))).set 3 (.int .i64 (F 3))).set 4 (.int .i64 (F 4))).set 5 (.int .i64 (F 5))).set 6 (.int .i64 (F 6))).set 7 (.int .i64 (F 7))).set 8 (.int .i64 (F 8))).set 9 (.int .i64 (F 9))).set 10 (.int .i64 (F 10))).set 11 (.int .i64 (F 11)))
      simp only [List.setIfInBounds_toArray, List.set_cons_zero, List.set_cons_succ] at h
      unfold fArr
      exact h

end Go.Proofs.Ytlhbgainpeehoaa
