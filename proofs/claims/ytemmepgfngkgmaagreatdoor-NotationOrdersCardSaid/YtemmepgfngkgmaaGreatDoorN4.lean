/-
  Contracts of the notation: within, chips, compare, kept, sorted, the sorts, open, a number.
-/
import Derived.Test.YtemmepgfngkgmaaGreatDoorP1
import Derived.Test.YtemmepgfngkgmaaGreatDoorN3
namespace Go.Proofs.YtemmepgfngkgmaaGreatDoor
open Go.RowKit
set_option linter.unusedVariables false
set_option linter.unusedSimpArgs false

def witB (n lo hi : Int) : Bool := decide (lo ≤ n) && decide (n ≤ hi)
theorem n_within (n lo hi : Int) (w : World) :
    Calls Tryz.prog 56 #[.int .i64 n, .int .i64 lo, .int .i64 hi] w fun e w' => e = .returned (.bool (witB n lo hi)) ∧ w = w' := by
  by_cases h1 : lo ≤ n
  · by_cases h2 : n ≤ hi
    · go_enter Tryz.func56, Tryz.ntmps56
      go_wp2
      go_ret
      exact ⟨ret_bool (by simp [witB, h1, h2]), rfl⟩
    · have h2' : hi < n := by omega
      go_enter Tryz.func56, Tryz.ntmps56
      go_wp2
      go_ret
      exact ⟨ret_bool (by simp [witB, h1]; omega), rfl⟩
  · have h1' : n < lo := by omega
    go_enter Tryz.func56, Tryz.ntmps56
    go_wp2
    go_ret
    exact ⟨ret_bool (by simp [witB]; omega), rfl⟩

theorem n_chips (n : Int) (w : World) :
    Calls Tryz.prog 75 #[.int .i64 n] w fun e w' => e = .returned (.bool (chipB n)) ∧ w = w' := by
  go_enter Tryz.func75, Tryz.ntmps75
  go_wp2_with fail
  refine (n_within _ _ _ _).mono ?_
  rintro e w1 ⟨rfl, rfl⟩
  dsimp only
  go_wp2_with fail
  go_ret
  exact ⟨ret_bool rfl, rfl⟩

set_option maxRecDepth 100000 in
theorem n_compare (a b c d : Int) (w : World) : Calls Tryz.prog 88 #[.agg #[.int .i64 a, .int .i64 b], .agg #[.int .i64 c, .int .i64 d]] w
    fun e w' => e = .returned (.int .i64 (cmpP a b c d)) ∧ Below w.heap.size w w' := by
  have HZ := hid (show cmpP a b c d = if cmpI a c ≠ 0 then cmpI a c else cmpI b d from rfl)
  go_enter Tryz.func88, Tryz.ntmps88
  go_upto_region 1 with fail
  obtain ⟨W0, hW0⟩ : ∃ W : World, W = ((w.alloc (.cells #[.int .i64 a, .int .i64 b] 80)).alloc (.cells #[.int .i64 c, .int .i64 d] 80)) := ⟨_, rfl⟩
  rw [← hW0]
  have e1 : W0.cell? ⟨w.heap.size, 0, none⟩ = some (.int .i64 a) := by rw [hW0]; simp
  have e2 : W0.cell? ⟨w.heap.size, 1, none⟩ = some (.int .i64 b) := by rw [hW0]; simp
  have e3 : W0.cell? ⟨w.heap.size + 1, 0, none⟩ = some (.int .i64 c) := by rw [hW0]; simp
  have e4 : W0.cell? ⟨w.heap.size + 1, 1, none⟩ = some (.int .i64 d) := by rw [hW0]; simp
  have hBw : Below w.heap.size w W0 := by rw [hW0]; go_grown
  have hs0 : w.heap.size ≤ W0.heap.size := hBw.size
  clear hW0
  let S : World → Prop := fun w' => w'.cell? ⟨w.heap.size, 0, none⟩ = some (.int .i64 a) ∧ w'.cell? ⟨w.heap.size, 1, none⟩ = some (.int .i64 b) ∧ w'.cell? ⟨w.heap.size + 1, 0, none⟩ = some (.int .i64 c) ∧ w'.cell? ⟨w.heap.size + 1, 1, none⟩ = some (.int .i64 d)
  (refine wp_region_text 10 [0,1,2,3,5,6,7,8,4,9] S (by kernel_rfl) (by kernel_rfl) (by intro _ _ d _ _ h; cases d <;> exact h) ?hS ?_; rotate_left; simp only [List.map_cons, List.map_nil, List.getD_cons_zero, List.getD_cons_succ, List.drop_succ_cons, List.drop_zero])
  case hS => exact ⟨e1, e2, e3, e4⟩
  (repeat ((refine' wpSeq_take rfl _ (by rfl) ?_ ?_; rotate_left; focus (intro w' hS; (try dsimp only at hS); obtain ⟨s1, s2, s3, s4⟩ := hS; go_simp; (first | done | with_reducible rfl)); (try simp only [Act.put, List.setIfInBounds_toArray, List.set_cons_zero, List.set_cons_succ])); (try simp only [Act.put, List.setIfInBounds_toArray, List.set_cons_zero, List.set_cons_succ])))
  (refine wpSeq_call rfl (by rfl) (fun K hK => ?_); go_simp; refine (c_Compare _ _ _).mono ?_; rintro e w1 ⟨rfl, rfl⟩; refine hK _ _ (⟨e1, e2, e3, e4⟩) ?_; clear hK K; (try simp only [Act.put, List.setIfInBounds_toArray, List.set_cons_zero, List.set_cons_succ]))
  (refine wpSeq_call rfl (by rfl) (fun K hK => ?_); go_simp; refine (c_Compare _ _ _).mono ?_; rintro e w1 ⟨rfl, rfl⟩; refine hK _ _ (⟨e1, e2, e3, e4⟩) ?_; clear hK K; (try simp only [Act.put, List.setIfInBounds_toArray, List.set_cons_zero, List.set_cons_succ]))
  refine wpSeq_nil ?_
  clear e1 e2 e3 e4 S
  have H1 : W0.heap.size < (W0.alloc (.cells #[.int .i64 (cmpI a c), .int .i64 (cmpI b d)] 3)).drew.heap.size := by simp
  have H2 : (W0.alloc (.cells #[.int .i64 (cmpI a c), .int .i64 (cmpI b d)] 3)).drew.cell? ⟨W0.heap.size, 0, none⟩ = some (.int .i64 (cmpI a c)) := by simp
  have H3 : (W0.alloc (.cells #[.int .i64 (cmpI a c), .int .i64 (cmpI b d)] 3)).drew.cell? ⟨W0.heap.size, 1, none⟩ = some (.int .i64 (cmpI b d)) := by simp
  have hor := hid (c_Or2 (cmpI a c) (cmpI b d) W0.heap.size 2 _ H1 H2 H3 (Nat.le_refl _))
  rw [← HZ.out] at hor
  clear H1 H2 H3
  go_wp2_with (go_at_call 119; refine hor.out.mono ?_; rintro e w1 ⟨rfl, rfl⟩)
  go_ret
  exact ⟨rfl, by go_grown⟩

theorem load_pair {w : World} {b : Nat} {v0 v1 : Value} (c0 : w.cell? ⟨b, 0, none⟩ = some v0) (c1 : w.cell? ⟨b, 1, none⟩ = some v1) :
    (loadVar 80 ⟨b, 0, none⟩).run Tryz.prog w = .ok (.agg #[v0, v1]) w := by
  go_simp
theorem cell_new2 (w : World) (v0 v1 : Value) (T : TypeId) : (w.alloc (.cells #[v0, v1] T)).cell? ⟨w.heap.size, 0, none⟩ = some v0 ∧ (w.alloc (.cells #[v0, v1] T)).cell? ⟨w.heap.size, 1, none⟩ = some v1 := by
  refine ⟨?_, ?_⟩ <;> simp [World.cell?_alloc_new]

theorem n_kept (a b : Int) (w : World) : Calls Tryz.prog 111 #[.int .i64 a, .int .i64 b] w fun e w' => e = .returned (.agg #[.int .i64 a, .int .i64 b]) ∧ Below w.heap.size w w' := by
  go_enter Tryz.func111, Tryz.ntmps111
  go_wp2
  refine bodyPost_ret (results_cell1' rfl rfl (load_pair (cell_new2 _ _ _ _).1 (cell_new2 _ _ _ _).2)) rfl ?_
  exact ⟨rfl, by go_grown⟩
theorem n_sorted (a b : Int) (w : World) : Calls Tryz.prog 96 #[.int .i64 a, .int .i64 b] w fun e w' => e = .returned (.agg #[.int .i64 (min a b), .int .i64 (max a b)]) ∧ Below w.heap.size w w' := by
  go_enter Tryz.func96, Tryz.ntmps96
  go_wp2
  refine bodyPost_ret (results_cell1' rfl rfl (load_pair (cell_new2 _ _ _ _).1 (cell_new2 _ _ _ _).2)) rfl ?_
  exact ⟨rfl, by go_grown⟩

/-- The value of a sort. -/
def sortV (word : List UInt8) (sign : UInt8) (f : Nat) : Value := .agg #[.string (str word), .string (str [sign]), .func (.func f) #[] #[]]
theorem load_sort {w : World} {b : Nat} {v0 v1 v2 : Value} (c0 : w.cell? ⟨b, 0, none⟩ = some v0) (c1 : w.cell? ⟨b, 1, none⟩ = some v1) (c2 : w.cell? ⟨b, 2, none⟩ = some v2) :
    (loadVar 89 ⟨b, 0, none⟩).run Tryz.prog w = .ok (.agg #[v0, v1, v2]) w := by
  go_simp
theorem n_graphs (w : World) : Calls Tryz.prog 42 #[] w fun e w' => e = .returned (sortV wGraph 45 96) ∧ Below w.heap.size w w' := by
  go_enter Tryz.func42, Tryz.ntmps42
  go_wp2
  refine bodyPost_ret (results_cell1' rfl rfl (load_sort (cell_new3 _ _ _ _ _).1 (cell_new3 _ _ _ _ _).2.1 (cell_new3 _ _ _ _ _).2.2)) rfl ?_
  exact ⟨rfl, by go_grown⟩
theorem n_digraphs (w : World) : Calls Tryz.prog 86 #[] w fun e w' => e = .returned (sortV wDigraph 62 111) ∧ Below w.heap.size w w' := by
  go_enter Tryz.func86, Tryz.ntmps86
  go_wp2
  refine bodyPost_ret (results_cell1' rfl rfl (load_sort (cell_new3 _ _ _ _ _).1 (cell_new3 _ _ _ _ _).2.1 (cell_new3 _ _ _ _ _).2.2)) rfl ?_
  exact ⟨rfl, by go_grown⟩
theorem n_ribbons (w : World) : Calls Tryz.prog 60 #[] w fun e w' => e = .returned (sortV wRibbon 45 111) ∧ Below w.heap.size w w' := by
  go_enter Tryz.func60, Tryz.ntmps60
  go_wp2
  refine bodyPost_ret (results_cell1' rfl rfl (load_sort (cell_new3 _ _ _ _ _).1 (cell_new3 _ _ _ _ _).2.1 (cell_new3 _ _ _ _ _).2.2)) rfl ?_
  exact ⟨rfl, by go_grown⟩

end Go.Proofs.YtemmepgfngkgmaaGreatDoor
