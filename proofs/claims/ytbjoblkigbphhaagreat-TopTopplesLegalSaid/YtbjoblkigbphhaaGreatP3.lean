/-
  Contracts of the program's connect: grown, root, join, joined. Contracts of the program's connect: parts, Components, Connected.
-/
import Derived.Test.YtbjoblkigbphhaaGreatP2
import Derived.Test.YtbjoblkigbphhaaGreatSpec2
import Derived.Deep.WholeRow
import Derived.Test.YtbjoblkigbphhaaGreatSpec9
namespace Go.Proofs.YtbjoblkigbphhaaGreat
open Go.RowKit

set_option maxRecDepth 100000 in
set_option maxHeartbeats 1000000 in
theorem p_root (F : Nat → Nat) (hF : ∀ v, F v ≤ v) (b v : Nat) (hv : v < 12) (w : World) (hb : Blk w b (fArr F) 161) :
    Calls Tryz.prog 108 #[.pointer (some ⟨b, 0, none⟩), .int .i64 v] w fun e w' => e = .returned (.int .i64 (root F v)) ∧ w = w' := by
  obtain ⟨z, hz⟩ : ∃ z, root F v = z := ⟨_, rfl⟩
  rw [hz]
  have HZ := hid hz
  clear hz
  have hlt := hb.lt
  go_enter Tryz.func108, Tryz.ntmps108
  go_wp2
  go_loopw [1] (fun i wr => ∃ k : Nat, k < 12 ∧ i = .int .i64 k ∧ Hid (root F k = z) ∧ Hid (w = wr)) (fun i _ => (intOf i).toNat)
  case atStart => exact ⟨v, hv, rfl, HZ, rfl⟩
  case round =>
    obtain ⟨k, hk, rfl, HZ, HE⟩ := hrel
    obtain rfl := HE.out
    have c1 : w.cell? ⟨b, k, none⟩ = some (.int .i64 (F k)) := (hb.cell k).trans (fArr_get F k hk)
    have hk' : (k : Int) < 12 := by omega
    by_cases h : F k = k
    · have hn : (((F k : Nat) : Int) != (k : Int)) = false := by simp [h]
      go_wp2
      all_goals (go_ret; exact ⟨ret_int (by rw [← HZ.out, root_fix h]), rfl⟩)
    · have hn : (((F k : Nat) : Int) != (k : Int)) = true := by simp; omega
      have h2 := hF k
      have h3 : F k < k := by omega
      have h4 := hid (root_step hF k)
      generalize F k = fk at *
      clear h
      go_wp2
      go_roundw
      case rel => exact ⟨fk, by omega, rfl, hid (by rw [← HZ.out, h4.out]), True.intro⟩
      case measure => simp [intOf]; omega

set_option maxRecDepth 100000 in
set_option maxHeartbeats 1000000 in
theorem p_join (F : Nat → Nat) (hF : ∀ v, F v ≤ v) (b u v : Nat) (hu : u < 12) (hv : v < 12) (w : World) (hb : Blk w b (fArr F) 161) :
    Calls Tryz.prog 107 #[.pointer (some ⟨b, 0, none⟩), .int .i64 u, .int .i64 v] w
      fun e w' => e = .returned (.tuple #[]) ∧ w.setCell ⟨b, max (root F u) (root F v), none⟩ (.int .i64 ((min (root F u) (root F v) : Nat) : Int)) = w' := by
  have hlt := hb.lt
  have hru := root_le hF u
  have hrv := root_le hF v
  have cu : w.cell? ⟨b, root F u, none⟩ = some (.int .i64 (F (root F u))) := (hb.cell _).trans (fArr_get F _ (by omega))
  have cv : w.cell? ⟨b, root F v, none⟩ = some (.int .i64 (F (root F v))) := (hb.cell _).trans (fArr_get F _ (by omega))
  have fu := fun k => hb.frozen k
  have hu' : (root F u : Int) < 12 := by omega
  have hv' : (root F v : Int) < 12 := by omega
  by_cases h : root F u < root F v
  · rw [Nat.max_eq_right (by omega), Nat.min_eq_left (by omega)]
    go_enter Tryz.func107, Tryz.ntmps107
    go_wp2_with (go_at_call 108; refine (p_root F hF b _ ?_ _ hb).mono ?_; (first | exact hu | exact hv); rintro e w1 ⟨rfl, rfl⟩)
    go_end0
    exact ⟨rfl, rfl⟩
  · rw [Nat.max_eq_left (by omega), Nat.min_eq_right (by omega)]
    have h' : root F v ≤ root F u := by omega
    go_enter Tryz.func107, Tryz.ntmps107
    go_wp2_with (go_at_call 108; refine (p_root F hF b _ ?_ _ hb).mono ?_; (first | exact hu | exact hv); rintro e w1 ⟨rfl, rfl⟩)
    all_goals (go_end0; first | exact ⟨rfl, rfl⟩ | (refine ⟨rfl, ?_⟩; rw [show root F v = root F u by omega]))

theorem results_cell1 {P : Program} {fn : Func} {k : Nat} {t : TypeId} (h : fn.results = #[.cell k t]) {tmps : Array Value} {b : Nat} {v : Value} {w : World} (ht : tmps[k]?.getD undef = .pointer (some ⟨b, 0, none⟩))
    (hl : (loadVar t ⟨b, 0, none⟩).run P w = .ok v w) : (results fn tmps).run P w = .ok v w := by
  simp [results, h, ht, asAddr, hl]
theorem load_forest {w : World} {b : Nat} {cs : Array Value} (h : Blk w b cs 161) (hs : cs.size = 12) : (loadVar 161 ⟨b, 0, none⟩).run Tryz.prog w = .ok (.agg cs) w :=
  run_loadVar_row _ _ 161 161 cs (0, 0) _ h (by kernel_rfl : Tryz.prog.underlying 161 = some (.array 12 3)) rfl (by rw [hs]; kernel_rfl)

/-- The forest as it grows. -/
def idTo (k : Nat) : Nat → Nat := fun v => if v < k then v else 0
theorem idTo_set (k : Nat) (hk : k < 12) : (fArr (idTo k)).setIfInBounds k (.int .i64 (k : Int)) = fArr (idTo (k + 1)) := by
  rw [fArr_set _ _ _ hk]
  congr 1
  funext v
  unfold idTo
  grind

set_option maxRecDepth 100000 in
set_option maxHeartbeats 2000000 in
theorem p_grown (w : World) :
    Calls Tryz.prog 106 #[] w fun e w' => e = .returned (.agg (fArr fun v => v)) ∧ Below w.heap.size w w' := by
  have hfa : fArr (fun v => v) = #[.int .i64 0, .int .i64 1, .int .i64 2, .int .i64 3, .int .i64 4, .int .i64 5, .int .i64 6, .int .i64 7, .int .i64 8, .int .i64 9, .int .i64 10, .int .i64 11] := rfl
  rw [hfa]
  clear hfa
  go_enter Tryz.func106, Tryz.ntmps106
  go_wp2
  obtain ⟨W0, hW0⟩ : ∃ W : World, W = ((w.alloc (.cells #[.int .i64 0, .int .i64 0, .int .i64 0, .int .i64 0, .int .i64 0, .int .i64 0, .int .i64 0, .int .i64 0, .int .i64 0, .int .i64 0, .int .i64 0, .int .i64 0] 161)).alloc (.cells #[.int .i64 0, .int .i64 0, .int .i64 0, .int .i64 0, .int .i64 0, .int .i64 0, .int .i64 0, .int .i64 0, .int .i64 0, .int .i64 0, .int .i64 0, .int .i64 0] 161)) := ⟨_, rfl⟩
  rw [← hW0]
  have hb0 : Blk W0 w.heap.size #[.int .i64 0, .int .i64 0, .int .i64 0, .int .i64 0, .int .i64 0, .int .i64 0, .int .i64 0, .int .i64 0, .int .i64 0, .int .i64 0, .int .i64 0, .int .i64 0] 161 := by rw [hW0]; exact (Blk.new w _ _).alloc _
  have hb1 : Blk W0 (w.heap.size + 1) #[.int .i64 0, .int .i64 0, .int .i64 0, .int .i64 0, .int .i64 0, .int .i64 0, .int .i64 0, .int .i64 0, .int .i64 0, .int .i64 0, .int .i64 0, .int .i64 0] 161 := by rw [hW0]; have := Blk.new (w.alloc (.cells #[.int .i64 0, .int .i64 0, .int .i64 0, .int .i64 0, .int .i64 0, .int .i64 0, .int .i64 0, .int .i64 0, .int .i64 0, .int .i64 0, .int .i64 0, .int .i64 0] 161)) #[.int .i64 0, .int .i64 0, .int .i64 0, .int .i64 0, .int .i64 0, .int .i64 0, .int .i64 0, .int .i64 0, .int .i64 0, .int .i64 0, .int .i64 0, .int .i64 0] 161; simpa using this
  have hBw : Below w.heap.size w W0 := by rw [hW0]; go_grown
  clear hW0
  go_loopw [3] (fun i wr => ∃ k : Nat, k ≤ 12 ∧ i = .int .i64 k ∧ Blk wr w.heap.size #[.int .i64 0, .int .i64 0, .int .i64 0, .int .i64 0, .int .i64 0, .int .i64 0, .int .i64 0, .int .i64 0, .int .i64 0, .int .i64 0, .int .i64 0, .int .i64 0] 161 ∧ Blk wr (w.heap.size + 1) (fArr (idTo k)) 161 ∧ Below w.heap.size w wr) (fun i _ => 12 - (intOf i).toNat)
  case atStart => exact ⟨0, by omega, rfl, hb0, hb1, hBw⟩
  case round =>
    obtain ⟨k, hk, rfl, hb0, hb1, hB⟩ := hrel
    have l0 := hb0.lt
    have l1 := hb1.lt
    by_cases hlt : k < 12
    · have c1 : wr.cell? ⟨w.heap.size + 1, k, none⟩ = some (.int .i64 (idTo k k)) := (hb1.cell k).trans (fArr_get _ k hlt)
      have f1 := hb1.frozen k
      have hk' : (k : Int) < 12 := by omega
      go_wp2
      go_roundw
      case rel =>
        refine ⟨k + 1, by omega, by go_num, hb0.other (by omega) _ _, ?_, hB.setCell (by exact Nat.le_succ _) _⟩
        rw [← idTo_set k hlt]
        exact hb1.set k _
      case measure => simp [intOf]; omega
    · obtain rfl : k = 12 := by omega
      have c1 : ∀ i, i < 12 → wr.cell? ⟨w.heap.size + 1, i, none⟩ = some (.int .i64 i) := fun i hi => ((hb1.cell i).trans (fArr_get _ i hi)).trans (by simp [idTo, hi])
      have c0 : ∀ i, i < 12 → wr.cell? ⟨w.heap.size, i, none⟩ = some (.int .i64 0) := fun i hi => (hb0.cell i).trans (by rcases i with _|_|_|_|_|_|_|_|_|_|_|_|i <;> first | rfl | omega)
      have f0 := fun i => hb0.frozen i
      go_wp2
      refine bodyPost_ret (results_cell1 rfl rfl (load_forest (cs := #[.int .i64 0, .int .i64 1, .int .i64 2, .int .i64 3, .int .i64 4, .int .i64 5, .int .i64 6, .int .i64 7, .int .i64 8, .int .i64 9, .int .i64 10, .int .i64 11]) ?_ rfl)) rfl ⟨rfl, by go_grown⟩
      exact ((((((((((((hb0.set 0 _).set 1 _).set 2 _).set 3 _).set 4 _).set 5 _).set 6 _).set 7 _).set 8 _).set 9 _).set 10 _).set 11 _)

set_option maxRecDepth 100000 in
set_option maxHeartbeats 2000000 in
theorem p_joined (g : G) (gv : Value) (hk : Gok g) (w : World) (hg : GrR w gv g) :
    Calls Tryz.prog 104 #[gv] w fun e w' => e = .returned (.agg (fArr (forestTo g g.es.length))) ∧ Below w.heap.size w w' := by
  have hg' := hg
  obtain ⟨ev, rfl, a, cap, rfl, hcap, hcm, hlen, hc⟩ := hg'
  have hfa := hid (show fArr (fun v => v) = #[.int .i64 0, .int .i64 1, .int .i64 2, .int .i64 3, .int .i64 4, .int .i64 5, .int .i64 6, .int .i64 7, .int .i64 8, .int .i64 9, .int .i64 10, .int .i64 11] from rfl)
  have hend := hid (fun k (h : k < g.es.length) => hk.ends k h)
  obtain ⟨_, hn12⟩ := hk.n
  clear hk
  go_enter Tryz.func104, Tryz.ntmps104
  go_wp2_with (go_at_call 106; refine (p_grown _).mono ?_; rintro e w1 ⟨rfl, hB1⟩; rw [hfa.out]; obtain ⟨r1, r2⟩ := bcell hB1; have u0 := hB1.size; (simp only [World.size_alloc] at u0); have u1 : w.heap.size < w1.heap.size := (by omega))
  obtain ⟨W0, hW0⟩ : ∃ W : World, W = w1.alloc (.cells #[.int .i64 0, .int .i64 1, .int .i64 2, .int .i64 3, .int .i64 4, .int .i64 5, .int .i64 6, .int .i64 7, .int .i64 8, .int .i64 9, .int .i64 10, .int .i64 11] 161) := ⟨_, rfl⟩
  rw [← hW0]
  have hb3 : Blk W0 w1.heap.size (fArr (forestTo g 0)) 161 := by rw [hW0]; exact Blk.new w1 _ _
  have hb2 : Blk W0 (w.heap.size + 1) #[.int .i64 0, .int .i64 0, .int .i64 0, .int .i64 0, .int .i64 0, .int .i64 0, .int .i64 0, .int .i64 0, .int .i64 0, .int .i64 0, .int .i64 0, .int .i64 0] 161 := by
    rw [hW0]
    have := Blk.new (w.alloc (.cells #[.int .i64 g.n, .slice a g.es.length cap] 24)) #[.int .i64 0, .int .i64 0, .int .i64 0, .int .i64 0, .int .i64 0, .int .i64 0, .int .i64 0, .int .i64 0, .int .i64 0, .int .i64 0, .int .i64 0, .int .i64 0] 161
    exact (Blk.below (by simpa using this) hB1).alloc _
  have hBw : Below w.heap.size w W0 := by rw [hW0]; exact (up (by go_grown) hB1).alloc (by omega) _
  clear hW0 r1 r2 hB1
  have hne : w.heap.size + 1 ≠ w1.heap.size := by omega
  have hge : w.heap.size ≤ w1.heap.size := by omega
  generalize w1.heap.size = B3 at *
  go_loopw [10] (fun i wr => ∃ k : Nat, k ≤ g.es.length ∧ i = .int .i64 k ∧ Blk wr B3 (fArr (forestTo g k)) 161 ∧ Blk wr (w.heap.size + 1) #[.int .i64 0, .int .i64 0, .int .i64 0, .int .i64 0, .int .i64 0, .int .i64 0, .int .i64 0, .int .i64 0, .int .i64 0, .int .i64 0, .int .i64 0, .int .i64 0] 161 ∧ Below w.heap.size w wr) (fun i _ => g.es.length - (intOf i).toNat)
  case atStart => exact ⟨0, by omega, rfl, hb3, hb2, hBw⟩
  case round =>
    obtain ⟨k, hk, rfl, hb3, hb2, hB⟩ := hrel
    have l2 := hb2.lt
    have l3 := hb3.lt
    by_cases hlt : k < g.es.length
    · obtain ⟨b, off, rfl, hb, hc⟩ := (hc.below hB).edge (by omega)
      obtain ⟨q1, q2, q3⟩ := hc k hlt
      clear hc
      obtain ⟨e1, e2, e3, _, _⟩ := hend.out k hlt
      have hstep : Hid (forestTo g (k + 1) = joinF (forestTo g k) (g.es[k]?.getD default).a.toNat (g.es[k]?.getD default).b.toNat) := rfl
      generalize g.es[k]?.getD default = x at *
      obtain ⟨xa, xb, xm⟩ := x
      dsimp only at *
      obtain ⟨A, rfl⟩ : ∃ A : Nat, xa = A := ⟨xa.toNat, by omega⟩
      obtain ⟨B, rfl⟩ : ∃ B : Nat, xb = B := ⟨xb.toNat, by omega⟩
      have hb' : ∀ j, b < wr.heap.size + j := fun j => by omega
      have hA : A < 12 := by omega
      have hBB : B < 12 := by omega
      have hj : Hid (∀ w2, (wr.alloc (.cells #[.int .i64 A, .int .i64 B, .int .i64 xm] 96)).setCell ⟨B3, max (root (forestTo g k) A) (root (forestTo g k) B), none⟩ (.int .i64 ((min (root (forestTo g k) A) (root (forestTo g k) B) : Nat) : Int)) = w2 →
          Blk w2 B3 (fArr (forestTo g (k + 1))) 161 ∧ Blk w2 (w.heap.size + 1) #[.int .i64 0, .int .i64 0, .int .i64 0, .int .i64 0, .int .i64 0, .int .i64 0, .int .i64 0, .int .i64 0, .int .i64 0, .int .i64 0, .int .i64 0, .int .i64 0] 161 ∧ Below w.heap.size w w2) := by
        rintro w2 rfl
        refine ⟨?_, (hb2.alloc _).other hne _ _, (hB.alloc (by omega) _).setCell hge _⟩
        rw [hstep.out]
        have h1 := (hb3.alloc (.cells #[.int .i64 A, .int .i64 B, .int .i64 xm] 96)).set (max (root (forestTo g k) A) (root (forestTo g k) B)) (.int .i64 ((min (root (forestTo g k) A) (root (forestTo g k) B) : Nat) : Int))
        rw [fArr_set _ _ _ (by have := root_le (forestTo_le g k) A; have := root_le (forestTo_le g k) B; omega)] at h1
        exact h1
      go_wp2_with (go_at_call 107; refine (p_join (forestTo g k) (forestTo_le g k) B3 A B hA hBB _ (hb3.alloc _)).mono ?_; rintro e w2 ⟨rfl, hw2⟩; obtain ⟨j1, j2, j3⟩ := hj.out w2 hw2; clear hw2)
      go_roundw
      case rel =>
        exact ⟨k + 1, by omega, by go_num, j1, j2, j3⟩
      case measure => simp [intOf]; omega
    · obtain rfl : k = g.es.length := by omega
      clear hend hfa
      obtain ⟨F, hF⟩ : ∃ F, F = forestTo g g.es.length := ⟨_, rfl⟩
      rw [← hF] at hb3
      have HF := hid hF
      clear hF
      have c1 := fun i (hi : i < 12) => (hb3.cell i).trans (fArr_get _ i hi)
      have c0 : ∀ i, i < 12 → wr.cell? ⟨w.heap.size + 1, i, none⟩ = some (.int .i64 0) := fun i hi => (hb2.cell i).trans (by rcases i with _|_|_|_|_|_|_|_|_|_|_|_|i <;> first | rfl | omega)
      have f0 := fun i => hb2.frozen i
      go_wp2
      refine bodyPost_ret (results_cell1 rfl rfl (load_forest (cs := fArr F) ?_ rfl)) rfl ⟨by rw [HF.out], by go_grown⟩
      have h := ((((((((((((hb2.set 0 (.int .i64 (F 0))).set 1 (.int .i64 (F 1))).set 2 (.int .i64 (F 2))).set 3 (.int .i64 (F 3))).set 4 (.int .i64 (F 4))).set 5 (.int .i64 (F 5))).set 6 (.int .i64 (F 6))).set 7 (.int .i64 (F 7))).set 8 (.int .i64 (F 8))).set 9 (.int .i64 (F 9))).set 10 (.int .i64 (F 10))).set 11 (.int .i64 (F 11)))
      simp only [List.setIfInBounds_toArray, List.set_cons_zero, List.set_cons_succ] at h
      unfold fArr
      exact h

end Go.Proofs.YtbjoblkigbphhaaGreat

namespace Go.Proofs.YtbjoblkigbphhaaGreat
open Go.RowKit Go.Maps

theorem Tryz.underIntT : Tryz.prog.underlying 3 = some (.int .i64) := by kernel_rfl
theorem Tryz.underPlace : Tryz.prog.underlying 166 = some (.map 3 3) := by kernel_rfl
theorem Tryz.lawInt : Keyed Tryz.prog 3 := int_keyed Tryz.underIntT
theorem Tryz.zeroInt (w : World) : (zeroValue 3).run Tryz.prog w = .ok (.int .i64 0) w := by kernel_rfl

/-- A slice of m elements is handed back. -/
def RetLen (w : World) (m : Nat) (e : Ending) (w' : World) : Prop := Below w.heap.size w w' ∧ ∃ a c, e = .returned (.slice a m c)

set_option maxRecDepth 100000 in
set_option maxHeartbeats 2000000 in
theorem p_parts (F : Nat → Nat) (hF : ∀ v, F v ≤ v) (b N : Nat) (hN : N ≤ 12) (w : World) (hb : Blk w b (fArr F) 161) :
    Calls Tryz.prog 105 #[.pointer (some ⟨b, 0, none⟩), .int .i64 N] w (RetLen w (cr F N)) := by
  have hmm := @run_makeMap Tryz.prog
  have hblt := hb.lt
  obtain ⟨i0, hi, hz0, hz1, hz2⟩ := info_parts Tryz.infoRow
  obtain ⟨i1, hj, hy0, hy1, hy2⟩ := info_parts Tryz.infoInt
  go_enter Tryz.func105, Tryz.ntmps105
  go_wp2
  go_loopw [5, 11] (fun t i wr => ∃ (k : Nat) (rv : Nat → Value) (xs : Nat → List Int), k ≤ N ∧ i = .int .i64 k ∧ OwnR 25 3 wr (w.heap.size + 1) t (cr F k) rv xs ∧ (∀ i, i < cr F k → (xs i).length ≤ k) ∧
      wr.ownsMap Tryz.prog 3 (plainElem Tryz.prog 3) w.heap.size k (plD F k) ∧ Below w.heap.size w wr)
    (fun _ i _ => N - (intOf i).toNat)
  case atStart => exact ⟨0, fun _ => .slice none 0 0, fun _ => [], Nat.zero_le _, rfl, OwnR.zero _ _ _ _ _ _, fun i h => by simp [cr] at h, World.ownsMap_made _ _ _ _, (Below.refl _ _).alloc (Nat.le_refl _) _⟩
  case round =>
    obtain ⟨k, rv, xs, hk, rfl, hR, hxs, hown, hB⟩ := hrel
    obtain ⟨ao, co, rfl⟩ := owns_slice hR.outer
    by_cases hlt : k < N
    · have hbr := hb.below hB
      have hkk := hid (p_root F hF b k (by omega) wr hbr)
      go_upto_if 19 with (go_at_call 108; refine hkk.out.mono ?_; rintro e w1 ⟨rfl, rfl⟩)
      go_cut [5] (fun t wx => ∃ (rv : Nat → Value) (xs : Nat → List Int), OwnR 25 3 wx (w.heap.size + 1) t (cr F (k + 1)) rv xs ∧ (∀ i, i < cr F (k + 1) → (xs i).length ≤ k) ∧
        wx.ownsMap Tryz.prog 3 (plainElem Tryz.prog 3) w.heap.size (k + 1) (plD F (k + 1)) ∧ Below w.heap.size w wx)
      case first =>
        have hcr := cr_le F k
        by_cases hfk : F k = k
        · have hrt : Hid (root F k = k) := root_fix hfk
          have hbo : ∀ q, (Value.slice ao (cr F k) co).ownBlock = some q → w.heap.size + 1 ≤ q := fun q hq => (hR.outer.lt q hq).1
          have hgo1 : ∀ w1, wr.grownBy w1 (some w.heap.size) → OwnR 25 3 w1 (w.heap.size + 1) (.slice ao (cr F k) co) (cr F k) rv xs := fun w1 hg => by
            refine hR.kept hg (.inr fun e => ?_) (fun i hi => .inr fun e => ?_)
            · have := hbo _ e; omega
            · have := ((hR.row i hi).lt _ e).1; omega
          have heq : ((root F k : Int) == (k : Int)) = true := by rw [hrt.out]; simp
          have hwl := hown.lt
          go_wp2_with (first
            | (at_mapUpdate; refine wpList_mapUpdate_own _ rfl _ _ _ 166 rfl 3 3 Tryz.lawInt Tryz.underPlace _ w.heap.size k _ rfl hown (by unfold maxLen; omega) _ _ _ rfl rfl (keyOf_int_mk Tryz.underIntT (WalkArith.wf_i64 (by omega))) _ [] (plainElem_int Tryz.underIntT (WalkArith.wf_i64 (by omega))) ?_; intro w1 hown1 hgrow1; have hR1 := hgo1 w1 hgrow1; have hs1 := hgrow1.size)
            | (at_builtin; refine wpList_append_own _ rfl (.tmp 24) (.tmp 25) 59 rfl (w.heap.size + 1) 25 i0 (.slice none 0 0) 1 24 Tryz.underMat hi hz0 hz1 hz2 rfl (by decide) _ (cr F k) _ rfl (hR1.outer.alloc _) ⟨w1.heap.size, 0, none⟩ 1 1 [.slice none 0 0] rfl rfl (cell_one_new _ _ _) (by simp [Value.oneCell']) (by unfold maxLen; omega) (by omega) (by simp; omega) ?_; intro v' w2 hown2 hgr2 _))
          go_meet
          have hsB := hB.size
          have hs2 := hgr2.size
          simp only [World.size_alloc] at hs2
          rw [cr_yes hfk, plD_yes hfk]
          refine ⟨_, _, (hR1.below ((Below.refl _ _).alloc (Nat.le_refl _) _)).snoc hgr2 (by decide) (by omega) hown2, fun i hi => ?_, (hown1.alloc _).kept hgr2 (fun e => ?_), ?_⟩
          · split
            · rename_i h; exact hxs i h
            · simp
          · have := hbo _ e.symm; omega
          · exact ((hB.grown hgrow1 hsB (fun j hj => by cases hj; exact Nat.le_refl _)).alloc (by omega) _).grown hgr2 (by simp; omega) (fun q hq => by have := hbo q hq; omega)
        · have hlt2 : F k < k := by have := hF k; omega
          have hrk : root F k < k := by
            rw [root_step hF]
            have := root_le hF (F k)
            omega
          have heq : ((root F k : Int) == (k : Int)) = false := by simp; omega
          go_wp2
          go_meet
          rw [cr_no hfk, plD_no hfk]
          exact ⟨rv, xs, hR, hxs, hown.mono (Nat.le_succ _), hB⟩
      case rest =>
        obtain ⟨rv, xs, hR, hxs, hown, hB⟩ := hcut
        obtain ⟨W1, rfl⟩ : ∃ W : World, W = wc := ⟨_, rfl⟩
        obtain ⟨r, hr⟩ : ∃ r, r = root F k := ⟨_, rfl⟩
        rw [← hr]
        have hrF : F r = r := by rw [hr]; exact root_root hF k
        have hrk : r ≤ k := by rw [hr]; exact root_le hF k
        have hcm : cr F r < cr F (k + 1) := cr_lt F r (k + 1) (by omega) hrF
        have hm12 := cr_le F (k + 1)
        obtain ⟨go, gc, hgo⟩ := owns_some hR.outer (by omega)
        have hlook : Hid (∀ w', w'.ownsMap Tryz.prog 3 (plainElem Tryz.prog 3) w.heap.size (k + 1) (plD F (k + 1)) → (Instr.lookup 166 (.map (some w.heap.size)) (.int .i64 r) false).run Tryz.prog w' = .ok (.int .i64 (cr F r)) w') := fun w' h => by
          obtain ⟨c, hrun, hat, _⟩ := h.lookup_int Tryz.lawInt Tryz.underPlace Tryz.underIntT (Tryz.zeroInt _) (keyOf_int_mk Tryz.underIntT (WalkArith.wf_i64 (n := (r : Int)) (by omega)))
          rw [plD_at F r hrF (by omega) (k + 1) (by omega)] at hat
          simp at hat
          rw [hat]
          exact hrun
        have hrow := hR.row _ hcm
        have hx12 := hxs _ hcm
        obtain ⟨ar, cc, hrv⟩ := owns_slice hrow
        generalize cr F r = c at *
        generalize hmm' : cr F (k + 1) = m at *
        obtain ⟨rfl, hgo1, hgo2⟩ := hgo
        have hcell : W1.cell? ⟨go, c, none⟩ = some (.slice ar (xs c).length cc) := by rw [hR.outer.cellAt c (by omega)]; simp [hcm, hrv]
        have hfr : W1.frozen? ⟨go, c, none⟩ = false := hR.outer.frozenAt c
        have hcm' : (c : Int) < (m : Int) := by omega
        have hc0 : (0 : Int) ≤ (c : Int) := by omega
        have hl0 := hlook.out W1 hown
        have HR := hid hR
        have HX := hid hxs
        have HROW := hid hrow
        have HB := hid hB
        have HO := hid hown
        clear hR hxs hrow hB
        go_upto_region 10 with fail
        let S : World → Prop := fun w' => w'.ownsMap Tryz.prog 3 (plainElem Tryz.prog 3) w.heap.size (k + 1) (plD F (k + 1)) ∧ w'.cell? ⟨go, c, none⟩ = some (.slice ar (xs c).length cc)
        (refine wp_region_text 13 [0,1,2,3,4,5,6,7,8,9,10,11,12] S (by kernel_rfl) (by kernel_rfl) (by intro _ _ d _ _ h; cases d <;> exact h) ?hS ?_; rotate_left; simp only [List.map_cons, List.map_nil, List.getD_cons_zero, List.getD_cons_succ, List.drop_succ_cons, List.drop_zero])
        case hS => exact ⟨hown, hcell⟩
        (refine' wpSeq_take rfl _ (by rfl) ?_ ?_; rotate_left; focus (intro w' hS; (try dsimp only at hS); obtain ⟨s1, s2⟩ := hS; go_simp; (first | done | with_reducible rfl)); (try simp only [Act.put, List.setIfInBounds_toArray, List.set_cons_zero, List.set_cons_succ]))
        (refine' wpSeq_take rfl _ (by rfl) ?_ ?_; rotate_left; focus (intro w' hS; (try dsimp only at hS); obtain ⟨s1, s2⟩ := hS; go_simp; (first | done | with_reducible rfl)); (try simp only [Act.put, List.setIfInBounds_toArray, List.set_cons_zero, List.set_cons_succ]))
        (refine' wpSeq_take rfl _ (by rfl) ?_ ?_; rotate_left; focus (intro w' hS; (try dsimp only at hS); obtain ⟨s1, s2⟩ := hS; go_simp; (first | done | with_reducible rfl)); (try simp only [Act.put, List.setIfInBounds_toArray, List.set_cons_zero, List.set_cons_succ]))
        (refine' wpSeq_take rfl (.int .i64 c) (by rfl) ?_ ?_; focus (intro w' hS; obtain ⟨s1, s2⟩ := hS; have s3 := hlook.out w' s1; go_simp; rw [← hr, s3]; rfl); (try simp only [Act.put, List.setIfInBounds_toArray, List.set_cons_zero, List.set_cons_succ]))
        (refine' wpSeq_take rfl _ (by rfl) ?_ ?_; rotate_left; focus (intro w' hS; (try dsimp only at hS); obtain ⟨s1, s2⟩ := hS; go_simp; (first | done | with_reducible rfl)); (try simp only [Act.put, List.setIfInBounds_toArray, List.set_cons_zero, List.set_cons_succ]))
        (refine' wpSeq_take rfl _ (by rfl) ?_ ?_; rotate_left; focus (intro w' hS; (try dsimp only at hS); obtain ⟨s1, s2⟩ := hS; go_simp; (first | done | with_reducible rfl)); (try simp only [Act.put, List.setIfInBounds_toArray, List.set_cons_zero, List.set_cons_succ]))
        (refine' wpSeq_take rfl _ (by rfl) ?_ ?_; rotate_left; focus (intro w' hS; (try dsimp only at hS); obtain ⟨s1, s2⟩ := hS; go_simp; (first | done | with_reducible rfl)); (try simp only [Act.put, List.setIfInBounds_toArray, List.set_cons_zero, List.set_cons_succ]))
        (refine' wpSeq_take rfl (.int .i64 c) (by rfl) ?_ ?_; focus (intro w' hS; obtain ⟨s1, s2⟩ := hS; have s3 := hlook.out w' s1; go_simp; rw [← hr, s3]; rfl); (try simp only [Act.put, List.setIfInBounds_toArray, List.set_cons_zero, List.set_cons_succ]))
        (repeat ((refine' wpSeq_take rfl _ (by rfl) ?_ ?_; rotate_left; focus (intro w' hS; (try dsimp only at hS); obtain ⟨s1, s2⟩ := hS; go_simp; (first | done | with_reducible rfl)); (try simp only [Act.put, List.setIfInBounds_toArray, List.set_cons_zero, List.set_cons_succ])); (try simp only [Act.put, List.setIfInBounds_toArray, List.set_cons_zero, List.set_cons_succ])))
        have hkcell : Below W1.heap.size W1 (W1.alloc (.cells #[.int .i64 k] 3)) := (Below.refl _ _).alloc (Nat.le_refl _) _
        have hS2 : S (W1.alloc (.cells #[.int .i64 k] 3)).drew := ⟨(hown.alloc _).drew, (hkcell.cell (p := ⟨go, c, none⟩) hgo2).trans hcell⟩
        refine wpSeq_call rfl (by rfl) (fun K hK => ?_)
        go_simp
        refine hK _ _ hS2 ?_
        clear hK K
        (try simp only [Act.put, List.setIfInBounds_toArray, List.set_cons_zero, List.set_cons_succ])
        have hrow' : ((W1.alloc (.cells #[.int .i64 k] 3)).drew).ownsRow (w.heap.size + 1) 3 1 (.slice ar (xs c).length cc) (xs c).length ((xs c).map (Value.int .i64)) := by
          have h := HROW.out
          rw [hrv] at h
          exact h.alloc _
        have hsB := HB.out.size
        refine wpSeq_call rfl (by rfl) (fun K hK => ?_)
        refine wp_append_lies _ (.tmp 36) (.tmp 38) 25 rfl (w.heap.size + 1) 3 i1 (.int .i64 0) 1 8 Tryz.underInts hj hy0 hy1 hy2 rfl (by decide) (.slice ar (xs c).length cc) (xs c).length _ rfl hrow' ⟨W1.heap.size, 0, none⟩ 1 1 [.int .i64 k] rfl rfl (cell_one_new _ _ _) (by simp [Value.oneCell']) (by omega) (by unfold maxLen; omega) (by omega) (by simp; omega) _ rfl ?_
        intro bn cn w2 hown2 hgr2 hat hlt2
        have hR1 : OwnR 25 3 (W1.alloc (.cells #[.int .i64 k] 3)).drew (w.heap.size + 1) (.slice (some ⟨go, 0, none⟩) m gc) m rv xs := HR.out.below hkcell.drew
        have hg' : ((W1.alloc (.cells #[.int .i64 k] 3)).drew).grownBy w2 (rv c).ownBlock := by rw [hrv]; exact hgr2
        have hat' : (rv c).ownBlock = some bn ∨ ((W1.alloc (.cells #[.int .i64 k] 3)).drew).heap.size ≤ bn := by
          rw [hrv]
          rcases hat with e | e
          · exact .inl e
          · exact .inr (Nat.le_of_eq e.symm)
        have hput := hR1.put (zs := xs c ++ [(k : Int)]) (by decide) hcm hg' (by rw [List.length_append, List.map_append]; exact hown2) hat'
        have hc2 : w2.cell? ⟨go, c, none⟩ = some (.slice ar (xs c).length cc) := by
          rw [(hR1.outer.kept hg' (hR1.apart (by decide) c hcm)).cellAt c (by simpa using hcm)]
          simp [hcm, hrv]
        have hfr2 : w2.frozen? ⟨go, c, none⟩ = false := (hR1.outer.kept hg' (hR1.apart (by decide) c hcm)).frozenAt c
        have hm2 : w2.ownsMap Tryz.prog 3 (plainElem Tryz.prog 3) w.heap.size (k + 1) (plD F (k + 1)) := by
          refine ((hown.alloc _).drew).kept hgr2 (fun e => ?_)
          have := (hrow'.lt _ e.symm).1
          omega
        have HP := hid hput
        have HG := hid hgr2
        have HM := hid hm2
        clear hput hgr2 hR1 hg' hat' hown2 hat
        refine hK _ _ ⟨hm2, hc2⟩ ?_
        clear hK K hm2
        (try simp only [Act.put, List.setIfInBounds_toArray, List.set_cons_zero, List.set_cons_succ])
        refine wpSeq_nil ?_
        clear hS2 S
        go_wp2
        go_roundw
        have hne : w.heap.size ≠ go := by omega
        refine ⟨k + 1, _, _, hlt, rfl, by rw [hmm']; exact HP.out, fun i hi => ?_, HM.out.setCell hne _, ?_⟩
        · split
          · simp; omega
          · rw [hmm'] at hi
            have := HX.out i hi
            omega
        · refine ((HB.out.alloc hsB _).drew.grown HG.out (by simp; omega) (fun q hq => ?_)).setCell (by simp; omega) _
          have := (hrow'.lt _ hq).1
          omega
        · show N - ((k : Int) + 1).toNat < N - (k : Int).toNat
          omega
    · obtain rfl : k = N := by omega
      go_wp2
      go_ret
      exact ⟨hB, ao, co, rfl⟩

end Go.Proofs.YtbjoblkigbphhaaGreat
