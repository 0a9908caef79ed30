/-
  The parallel game, played: the region that lays its variables. The parallel game, played: what a round keeps. Results that lie in four cells.
-/
import Derived.Test.YtbjoblkigbphhaaGreatQ5
namespace Go.Proofs.YtbjoblkigbphhaaGreat
set_option linter.unusedSimpArgs false
set_option linter.unusedVariables false
open Go.RowKit Go.Shelf

theorem gdn {L : Array Bool} {i k : Nat} (hne : i ≠ k) (h : (L.setIfInBounds i true).getD k false = true) : L.getD k false = true := by
  rwa [getD_set_ne false hne] at h
/-- Does operation i wait for k? -/
def depB (ops : Array Oper) (md : Region.Mode) (i k : Nat) : Bool := match ops[i]? with | some o => o.after.any (fun e => Region.binds md e && e.on == k) | none => false
theorem ready_dep {ops : Array Oper} {md : Region.Mode} {L : Array Bool} {i k : Nat} (hi : i ∈ Region.ready md ops L) (hk : depB ops md i k = true) : L.getD k false = true := by
  obtain ⟨_, o, ho, hall⟩ := mem_ready.1 hi
  unfold depB at hk
  rw [ho] at hk
  simp only [Array.any_eq_true] at hk
  obtain ⟨j, hj, h⟩ := hk
  simp only [Bool.and_eq_true, beq_iff_eq] at h
  rw [← h.2]
  exact hall _ (Array.getElem_mem hj) h.1
theorem ready_lt {ops : Array Oper} {md : Region.Mode} {L : Array Bool} {i : Nat} (hi : i ∈ Region.ready md ops L) : i < ops.size := by
  obtain ⟨_, o, ho, _⟩ := mem_ready.1 hi
  exact (Array.getElem?_eq_some_iff.1 ho).1
theorem ready_un {ops : Array Oper} {md : Region.Mode} {L : Array Bool} {i : Nat} (hi : i ∈ Region.ready md ops L) : ¬ L.getD i false = true := by
  rw [getD_both (mem_ready.1 hi).1]; simp

/-- The block that a value names, and one. -/
def bOf : Value → Nat
  | .pointer (some a) => a.block + 1
  | .slice (some a) _ _ => a.block + 1
  | _ => 0

/-- What has been laid when the operations of L are done. -/
structure PInv (W : World) (dv : Value) (ds : List Int) (N gb : Nat) (L : Array Bool) (v13 v14 v15 v16 v25 v26 v27 v28 v29 : Value) (w : World) : Prop where
  sz : L.size = 13
  bel : Below W.heap.size W w
  h0 : L.getD 0 false = true → v25 = dv
  h1 : L.getD 1 false = true → ∃ cb cc, v26 = .slice (some ⟨cb, 0, none⟩) N cc ∧ w.ownsRow W.heap.size 3 1 (.slice (some ⟨cb, 0, none⟩) N cc) N (ds.map (Value.int .i64))
  h2 : L.getD 2 false = true → v27 = .pointer (some ⟨gb, 0, none⟩)
  h3 : L.getD 3 false = true → v28 = .int .i64 N
  h4 : L.getD 4 false = true → ∃ zb, v29 = .slice (some ⟨zb, 0, none⟩) N N ∧ w.ownsRow W.heap.size 3 1 (.slice (some ⟨zb, 0, none⟩) N N) N ((vecOf N fun _ => 0).map (Value.int .i64))
  h5 : L.getD 5 false = true → ∃ b, v13 = .pointer (some ⟨b, 0, none⟩) ∧ W.heap.size ≤ b ∧ ∃ u, Boxed w b 26 u ∧ (L.getD 9 false = true → u = v26)
  h6 : L.getD 6 false = true → ∃ b, v14 = .pointer (some ⟨b, 0, none⟩) ∧ W.heap.size ≤ b ∧ ∃ u, Boxed w b 27 u ∧ (L.getD 10 false = true → u = v29)
  h7 : L.getD 7 false = true → ∃ b, v15 = .pointer (some ⟨b, 0, none⟩) ∧ W.heap.size ≤ b ∧ Boxed w b 3 (.int .i64 0)
  h8 : L.getD 8 false = true → ∃ b, v16 = .pointer (some ⟨b, 0, none⟩) ∧ W.heap.size ≤ b ∧ Boxed w b 3 (.int .i64 0)
  n78 : L.getD 7 false = true → L.getD 8 false = true → bOf v15 ≠ bOf v16
  n17 : L.getD 1 false = true → L.getD 7 false = true → bOf v26 ≠ bOf v15
  n18 : L.getD 1 false = true → L.getD 8 false = true → bOf v26 ≠ bOf v16
  n47 : L.getD 4 false = true → L.getD 7 false = true → bOf v29 ≠ bOf v15
  n48 : L.getD 4 false = true → L.getD 8 false = true → bOf v29 ≠ bOf v16
  n14 : L.getD 1 false = true → L.getD 4 false = true → bOf v26 ≠ bOf v29
  d9 : L.getD 9 false = true → L.getD 1 false = true
  d10 : L.getD 10 false = true → L.getD 4 false = true
  d95 : L.getD 9 false = true → L.getD 5 false = true
  d106 : L.getD 10 false = true → L.getD 6 false = true

section
variable {W : World} {dv : Value} {ds : List Int} {N gb : Nat} {L : Array Bool} {v13 v14 v15 v16 v25 v26 v27 v28 v29 : Value} {w w' : World}
theorem PInv.init (hs : L.size = 13) (hL : ∀ k, L.getD k false = false) (hB : Below W.heap.size W w) : PInv W dv ds N gb L v13 v14 v15 v16 v25 v26 v27 v28 v29 w := by
  refine ⟨hs, hB, ?_, ?_, ?_, ?_, ?_, ?_, ?_, ?_, ?_, ?_, ?_, ?_, ?_, ?_, ?_, ?_, ?_, ?_, ?_⟩ <;> (intro h; rw [hL] at h; cases h)
theorem PInv.mono (h : PInv W dv ds N gb L v13 v14 v15 v16 v25 v26 v27 v28 v29 w) (hB : Below w.heap.size w w') : PInv W dv ds N gb L v13 v14 v15 v16 v25 v26 v27 v28 v29 w' :=
  ⟨h.sz, h.bel.trans (hB.mono h.bel.size), h.h0, fun x => by obtain ⟨cb, cc, e, ho⟩ := h.h1 x; exact ⟨cb, cc, e, owns_below ho hB⟩, h.h2, h.h3,
    fun x => by obtain ⟨zb, e, ho⟩ := h.h4 x; exact ⟨zb, e, owns_below ho hB⟩,
    fun x => by obtain ⟨b, e, hl, u, hb, hu⟩ := h.h5 x; exact ⟨b, e, hl, u, boxed_below hb hB, hu⟩,
    fun x => by obtain ⟨b, e, hl, u, hb, hu⟩ := h.h6 x; exact ⟨b, e, hl, u, boxed_below hb hB, hu⟩,
    fun x => by obtain ⟨b, e, hl, hb⟩ := h.h7 x; exact ⟨b, e, hl, boxed_below hb hB⟩,
    fun x => by obtain ⟨b, e, hl, hb⟩ := h.h8 x; exact ⟨b, e, hl, boxed_below hb hB⟩, h.n78, h.n17, h.n18, h.n47, h.n48, h.n14, h.d9, h.d10, h.d95, h.d106⟩
theorem PInv.lt1 (h : PInv W dv ds N gb L v13 v14 v15 v16 v25 v26 v27 v28 v29 w) (x : L.getD 1 false = true) : bOf v26 ≤ w.heap.size := by
  obtain ⟨cb, cc, rfl, ho⟩ := h.h1 x; exact (owns_lt ho).2
theorem PInv.lt4 (h : PInv W dv ds N gb L v13 v14 v15 v16 v25 v26 v27 v28 v29 w) (x : L.getD 4 false = true) : bOf v29 ≤ w.heap.size := by
  obtain ⟨cb, rfl, ho⟩ := h.h4 x; exact (owns_lt ho).2
theorem PInv.lt7 (h : PInv W dv ds N gb L v13 v14 v15 v16 v25 v26 v27 v28 v29 w) (x : L.getD 7 false = true) : bOf v15 ≤ w.heap.size := by
  obtain ⟨b, rfl, _, hb⟩ := h.h7 x; exact hb.lt
theorem PInv.lt8 (h : PInv W dv ds N gb L v13 v14 v15 v16 v25 v26 v27 v28 v29 w) (x : L.getD 8 false = true) : bOf v16 ≤ w.heap.size := by
  obtain ⟨b, rfl, _, hb⟩ := h.h8 x; exact hb.lt
-- BEGIN OPS
theorem PInv.op0 (h : PInv W dv ds N gb L v13 v14 v15 v16 v25 v26 v27 v28 v29 w)  : PInv W dv ds N gb (L.setIfInBounds 0 true) v13 v14 v15 v16 dv v26 v27 v28 v29 w :=
  ⟨by simp [h.sz],
    h.bel,
    fun _ => rfl,
    fun x => h.h1 (gdn (by decide) x),
    fun x => h.h2 (gdn (by decide) x),
    fun x => h.h3 (gdn (by decide) x),
    fun x => h.h4 (gdn (by decide) x),
    fun x => by obtain ⟨b', e, hl, u, hb', hu⟩ := h.h5 (gdn (by decide) x); exact ⟨b', e, hl, u, hb', fun y => hu (gdn (by decide) y)⟩,
    fun x => by obtain ⟨b', e, hl, u, hb', hu⟩ := h.h6 (gdn (by decide) x); exact ⟨b', e, hl, u, hb', fun y => hu (gdn (by decide) y)⟩,
    fun x => h.h7 (gdn (by decide) x),
    fun x => h.h8 (gdn (by decide) x),
    fun x y => h.n78 (gdn (by decide) x) (gdn (by decide) y),
    fun x y => h.n17 (gdn (by decide) x) (gdn (by decide) y),
    fun x y => h.n18 (gdn (by decide) x) (gdn (by decide) y),
    fun x y => h.n47 (gdn (by decide) x) (gdn (by decide) y),
    fun x y => h.n48 (gdn (by decide) x) (gdn (by decide) y),
    fun x y => h.n14 (gdn (by decide) x) (gdn (by decide) y),
    fun x => by rw [getD_set_ne false (by decide)]; exact h.d9 (gdn (by decide) x),
    fun x => by rw [getD_set_ne false (by decide)]; exact h.d10 (gdn (by decide) x),
    fun x => by rw [getD_listed (by rw [h.sz]; decide)]; simp only [h.d95 (gdn (by decide) x), Bool.or_true],
    fun x => by rw [getD_listed (by rw [h.sz]; decide)]; simp only [h.d106 (gdn (by decide) x), Bool.or_true]⟩
theorem PInv.op2 (h : PInv W dv ds N gb L v13 v14 v15 v16 v25 v26 v27 v28 v29 w)  : PInv W dv ds N gb (L.setIfInBounds 2 true) v13 v14 v15 v16 v25 v26 (.pointer (some ⟨gb, 0, none⟩)) v28 v29 w :=
  ⟨by simp [h.sz],
    h.bel,
    fun x => h.h0 (gdn (by decide) x),
    fun x => h.h1 (gdn (by decide) x),
    fun _ => rfl,
    fun x => h.h3 (gdn (by decide) x),
    fun x => h.h4 (gdn (by decide) x),
    fun x => by obtain ⟨b', e, hl, u, hb', hu⟩ := h.h5 (gdn (by decide) x); exact ⟨b', e, hl, u, hb', fun y => hu (gdn (by decide) y)⟩,
    fun x => by obtain ⟨b', e, hl, u, hb', hu⟩ := h.h6 (gdn (by decide) x); exact ⟨b', e, hl, u, hb', fun y => hu (gdn (by decide) y)⟩,
    fun x => h.h7 (gdn (by decide) x),
    fun x => h.h8 (gdn (by decide) x),
    fun x y => h.n78 (gdn (by decide) x) (gdn (by decide) y),
    fun x y => h.n17 (gdn (by decide) x) (gdn (by decide) y),
    fun x y => h.n18 (gdn (by decide) x) (gdn (by decide) y),
    fun x y => h.n47 (gdn (by decide) x) (gdn (by decide) y),
    fun x y => h.n48 (gdn (by decide) x) (gdn (by decide) y),
    fun x y => h.n14 (gdn (by decide) x) (gdn (by decide) y),
    fun x => by rw [getD_set_ne false (by decide)]; exact h.d9 (gdn (by decide) x),
    fun x => by rw [getD_set_ne false (by decide)]; exact h.d10 (gdn (by decide) x),
    fun x => by rw [getD_listed (by rw [h.sz]; decide)]; simp only [h.d95 (gdn (by decide) x), Bool.or_true],
    fun x => by rw [getD_listed (by rw [h.sz]; decide)]; simp only [h.d106 (gdn (by decide) x), Bool.or_true]⟩
theorem PInv.op3 (h : PInv W dv ds N gb L v13 v14 v15 v16 v25 v26 v27 v28 v29 w)  : PInv W dv ds N gb (L.setIfInBounds 3 true) v13 v14 v15 v16 v25 v26 v27 (.int .i64 N) v29 w :=
  ⟨by simp [h.sz],
    h.bel,
    fun x => h.h0 (gdn (by decide) x),
    fun x => h.h1 (gdn (by decide) x),
    fun x => h.h2 (gdn (by decide) x),
    fun _ => rfl,
    fun x => h.h4 (gdn (by decide) x),
    fun x => by obtain ⟨b', e, hl, u, hb', hu⟩ := h.h5 (gdn (by decide) x); exact ⟨b', e, hl, u, hb', fun y => hu (gdn (by decide) y)⟩,
    fun x => by obtain ⟨b', e, hl, u, hb', hu⟩ := h.h6 (gdn (by decide) x); exact ⟨b', e, hl, u, hb', fun y => hu (gdn (by decide) y)⟩,
    fun x => h.h7 (gdn (by decide) x),
    fun x => h.h8 (gdn (by decide) x),
    fun x y => h.n78 (gdn (by decide) x) (gdn (by decide) y),
    fun x y => h.n17 (gdn (by decide) x) (gdn (by decide) y),
    fun x y => h.n18 (gdn (by decide) x) (gdn (by decide) y),
    fun x y => h.n47 (gdn (by decide) x) (gdn (by decide) y),
    fun x y => h.n48 (gdn (by decide) x) (gdn (by decide) y),
    fun x y => h.n14 (gdn (by decide) x) (gdn (by decide) y),
    fun x => by rw [getD_set_ne false (by decide)]; exact h.d9 (gdn (by decide) x),
    fun x => by rw [getD_set_ne false (by decide)]; exact h.d10 (gdn (by decide) x),
    fun x => by rw [getD_listed (by rw [h.sz]; decide)]; simp only [h.d95 (gdn (by decide) x), Bool.or_true],
    fun x => by rw [getD_listed (by rw [h.sz]; decide)]; simp only [h.d106 (gdn (by decide) x), Bool.or_true]⟩
theorem PInv.op1 (h : PInv W dv ds N gb L v13 v14 v15 v16 v25 v26 v27 v28 v29 w) (hun : ¬ L.getD 1 false = true) {cb cc : Nat} (hB : Below w.heap.size w w') (ho : w'.ownsRow w.heap.size 3 1 (.slice (some ⟨cb, 0, none⟩) N cc) N (ds.map (Value.int .i64))) : PInv W dv ds N gb (L.setIfInBounds 1 true) v13 v14 v15 v16 v25 (.slice (some ⟨cb, 0, none⟩) N cc) v27 v28 v29 w' :=
  by
  have hl0 := h.bel.size
  have lt1 := h.lt1
  have lt4 := h.lt4
  have lt7 := h.lt7
  have lt8 := h.lt8
  have h := h.mono hB
  exact ⟨by simp [h.sz],
    h.bel,
    fun x => h.h0 (gdn (by decide) x),
    fun _ => ⟨cb, cc, rfl, owns_base ho hl0⟩,
    fun x => h.h2 (gdn (by decide) x),
    fun x => h.h3 (gdn (by decide) x),
    fun x => h.h4 (gdn (by decide) x),
    fun x => by obtain ⟨b', e, hl, u, hb', hu⟩ := h.h5 (gdn (by decide) x); exact ⟨b', e, hl, u, hb', fun y => absurd (h.d9 (gdn (by decide) y)) hun⟩,
    fun x => by obtain ⟨b', e, hl, u, hb', hu⟩ := h.h6 (gdn (by decide) x); exact ⟨b', e, hl, u, hb', fun y => hu (gdn (by decide) y)⟩,
    fun x => h.h7 (gdn (by decide) x),
    fun x => h.h8 (gdn (by decide) x),
    fun x y => h.n78 (gdn (by decide) x) (gdn (by decide) y),
    fun _ y => fun e => by have := lt7 (gdn (by decide) y); rw [← e] at this; have := (owns_lt ho).1; simp only [bOf] at *; omega,
    fun _ y => fun e => by have := lt8 (gdn (by decide) y); rw [← e] at this; have := (owns_lt ho).1; simp only [bOf] at *; omega,
    fun x y => h.n47 (gdn (by decide) x) (gdn (by decide) y),
    fun x y => h.n48 (gdn (by decide) x) (gdn (by decide) y),
    fun _ y => fun e => by have := lt4 (gdn (by decide) y); rw [← e] at this; have := (owns_lt ho).1; simp only [bOf] at *; omega,
    fun x => absurd (h.d9 (gdn (by decide) x)) hun,
    fun x => by rw [getD_set_ne false (by decide)]; exact h.d10 (gdn (by decide) x),
    fun x => by rw [getD_listed (by rw [h.sz]; decide)]; simp only [h.d95 (gdn (by decide) x), Bool.or_true],
    fun x => by rw [getD_listed (by rw [h.sz]; decide)]; simp only [h.d106 (gdn (by decide) x), Bool.or_true]⟩
theorem PInv.op4 (h : PInv W dv ds N gb L v13 v14 v15 v16 v25 v26 v27 v28 v29 w) (hun : ¬ L.getD 4 false = true) {cb : Nat} (hB : Below w.heap.size w w') (ho : w'.ownsRow w.heap.size 3 1 (.slice (some ⟨cb, 0, none⟩) N N) N ((vecOf N fun _ => 0).map (Value.int .i64))) : PInv W dv ds N gb (L.setIfInBounds 4 true) v13 v14 v15 v16 v25 v26 v27 v28 (.slice (some ⟨cb, 0, none⟩) N N) w' :=
  by
  have hl0 := h.bel.size
  have lt1 := h.lt1
  have lt4 := h.lt4
  have lt7 := h.lt7
  have lt8 := h.lt8
  have h := h.mono hB
  exact ⟨by simp [h.sz],
    h.bel,
    fun x => h.h0 (gdn (by decide) x),
    fun x => h.h1 (gdn (by decide) x),
    fun x => h.h2 (gdn (by decide) x),
    fun x => h.h3 (gdn (by decide) x),
    fun _ => ⟨cb, rfl, owns_base ho hl0⟩,
    fun x => by obtain ⟨b', e, hl, u, hb', hu⟩ := h.h5 (gdn (by decide) x); exact ⟨b', e, hl, u, hb', fun y => hu (gdn (by decide) y)⟩,
    fun x => by obtain ⟨b', e, hl, u, hb', hu⟩ := h.h6 (gdn (by decide) x); exact ⟨b', e, hl, u, hb', fun y => absurd (h.d10 (gdn (by decide) y)) hun⟩,
    fun x => h.h7 (gdn (by decide) x),
    fun x => h.h8 (gdn (by decide) x),
    fun x y => h.n78 (gdn (by decide) x) (gdn (by decide) y),
    fun x y => h.n17 (gdn (by decide) x) (gdn (by decide) y),
    fun x y => h.n18 (gdn (by decide) x) (gdn (by decide) y),
    fun _ y => fun e => by have := lt7 (gdn (by decide) y); rw [← e] at this; have := (owns_lt ho).1; simp only [bOf] at *; omega,
    fun _ y => fun e => by have := lt8 (gdn (by decide) y); rw [← e] at this; have := (owns_lt ho).1; simp only [bOf] at *; omega,
    fun x _ => fun e => by have := lt1 (gdn (by decide) x); rw [e] at this; have := (owns_lt ho).1; simp only [bOf] at *; omega,
    fun x => by rw [getD_set_ne false (by decide)]; exact h.d9 (gdn (by decide) x),
    fun x => absurd (h.d10 (gdn (by decide) x)) hun,
    fun x => by rw [getD_listed (by rw [h.sz]; decide)]; simp only [h.d95 (gdn (by decide) x), Bool.or_true],
    fun x => by rw [getD_listed (by rw [h.sz]; decide)]; simp only [h.d106 (gdn (by decide) x), Bool.or_true]⟩
theorem PInv.op5 (h : PInv W dv ds N gb L v13 v14 v15 v16 v25 v26 v27 v28 v29 w) (hd : ¬ L.getD 9 false = true) (u : Value) : PInv W dv ds N gb (L.setIfInBounds 5 true) (.pointer (some ⟨w.heap.size, 0, none⟩)) v14 v15 v16 v25 v26 v27 v28 v29 (w.alloc (.cells #[u] 26)) :=
  by
  have hl0 := h.bel.size
  have h := h.mono (w' := w.alloc (.cells #[u] 26)) ((Below.refl _ _).alloc (Nat.le_refl _) _)
  exact ⟨by simp [h.sz],
    h.bel,
    fun x => h.h0 (gdn (by decide) x),
    fun x => h.h1 (gdn (by decide) x),
    fun x => h.h2 (gdn (by decide) x),
    fun x => h.h3 (gdn (by decide) x),
    fun x => h.h4 (gdn (by decide) x),
    fun _ => ⟨_, rfl, hl0, u, Boxed.new _ _ _, fun y => absurd (gdn (by decide) y) hd⟩,
    fun x => by obtain ⟨b', e, hl, u, hb', hu⟩ := h.h6 (gdn (by decide) x); exact ⟨b', e, hl, u, hb', fun y => hu (gdn (by decide) y)⟩,
    fun x => h.h7 (gdn (by decide) x),
    fun x => h.h8 (gdn (by decide) x),
    fun x y => h.n78 (gdn (by decide) x) (gdn (by decide) y),
    fun x y => h.n17 (gdn (by decide) x) (gdn (by decide) y),
    fun x y => h.n18 (gdn (by decide) x) (gdn (by decide) y),
    fun x y => h.n47 (gdn (by decide) x) (gdn (by decide) y),
    fun x y => h.n48 (gdn (by decide) x) (gdn (by decide) y),
    fun x y => h.n14 (gdn (by decide) x) (gdn (by decide) y),
    fun x => by rw [getD_set_ne false (by decide)]; exact h.d9 (gdn (by decide) x),
    fun x => by rw [getD_set_ne false (by decide)]; exact h.d10 (gdn (by decide) x),
    fun x => by rw [getD_listed (by rw [h.sz]; decide)]; simp only [h.d95 (gdn (by decide) x), Bool.or_true],
    fun x => by rw [getD_listed (by rw [h.sz]; decide)]; simp only [h.d106 (gdn (by decide) x), Bool.or_true]⟩
theorem PInv.op6 (h : PInv W dv ds N gb L v13 v14 v15 v16 v25 v26 v27 v28 v29 w) (hd : ¬ L.getD 10 false = true) (u : Value) : PInv W dv ds N gb (L.setIfInBounds 6 true) v13 (.pointer (some ⟨w.heap.size, 0, none⟩)) v15 v16 v25 v26 v27 v28 v29 (w.alloc (.cells #[u] 27)) :=
  by
  have hl0 := h.bel.size
  have h := h.mono (w' := w.alloc (.cells #[u] 27)) ((Below.refl _ _).alloc (Nat.le_refl _) _)
  exact ⟨by simp [h.sz],
    h.bel,
    fun x => h.h0 (gdn (by decide) x),
    fun x => h.h1 (gdn (by decide) x),
    fun x => h.h2 (gdn (by decide) x),
    fun x => h.h3 (gdn (by decide) x),
    fun x => h.h4 (gdn (by decide) x),
    fun x => by obtain ⟨b', e, hl, u, hb', hu⟩ := h.h5 (gdn (by decide) x); exact ⟨b', e, hl, u, hb', fun y => hu (gdn (by decide) y)⟩,
    fun _ => ⟨_, rfl, hl0, u, Boxed.new _ _ _, fun y => absurd (gdn (by decide) y) hd⟩,
    fun x => h.h7 (gdn (by decide) x),
    fun x => h.h8 (gdn (by decide) x),
    fun x y => h.n78 (gdn (by decide) x) (gdn (by decide) y),
    fun x y => h.n17 (gdn (by decide) x) (gdn (by decide) y),
    fun x y => h.n18 (gdn (by decide) x) (gdn (by decide) y),
    fun x y => h.n47 (gdn (by decide) x) (gdn (by decide) y),
    fun x y => h.n48 (gdn (by decide) x) (gdn (by decide) y),
    fun x y => h.n14 (gdn (by decide) x) (gdn (by decide) y),
    fun x => by rw [getD_set_ne false (by decide)]; exact h.d9 (gdn (by decide) x),
    fun x => by rw [getD_set_ne false (by decide)]; exact h.d10 (gdn (by decide) x),
    fun x => by rw [getD_listed (by rw [h.sz]; decide)]; simp only [h.d95 (gdn (by decide) x), Bool.or_true],
    fun x => by rw [getD_listed (by rw [h.sz]; decide)]; simp only [h.d106 (gdn (by decide) x), Bool.or_true]⟩
theorem PInv.op7 (h : PInv W dv ds N gb L v13 v14 v15 v16 v25 v26 v27 v28 v29 w)  : PInv W dv ds N gb (L.setIfInBounds 7 true) v13 v14 (.pointer (some ⟨w.heap.size, 0, none⟩)) v16 v25 v26 v27 v28 v29 (w.alloc (.cells #[.int .i64 0] 3)) :=
  by
  have hl0 := h.bel.size
  have lt1 := h.lt1
  have lt4 := h.lt4
  have lt7 := h.lt7
  have lt8 := h.lt8
  have h := h.mono (w' := w.alloc (.cells #[.int .i64 0] 3)) ((Below.refl _ _).alloc (Nat.le_refl _) _)
  exact ⟨by simp [h.sz],
    h.bel,
    fun x => h.h0 (gdn (by decide) x),
    fun x => h.h1 (gdn (by decide) x),
    fun x => h.h2 (gdn (by decide) x),
    fun x => h.h3 (gdn (by decide) x),
    fun x => h.h4 (gdn (by decide) x),
    fun x => by obtain ⟨b', e, hl, u, hb', hu⟩ := h.h5 (gdn (by decide) x); exact ⟨b', e, hl, u, hb', fun y => hu (gdn (by decide) y)⟩,
    fun x => by obtain ⟨b', e, hl, u, hb', hu⟩ := h.h6 (gdn (by decide) x); exact ⟨b', e, hl, u, hb', fun y => hu (gdn (by decide) y)⟩,
    fun _ => ⟨_, rfl, hl0, Boxed.new _ _ _⟩,
    fun x => h.h8 (gdn (by decide) x),
    fun _ y => fun e => by have := lt8 (gdn (by decide) y); rw [← e] at this; simp only [bOf] at *; omega,
    fun x _ => fun e => by have := lt1 (gdn (by decide) x); rw [e] at this; simp only [bOf] at *; omega,
    fun x y => h.n18 (gdn (by decide) x) (gdn (by decide) y),
    fun x _ => fun e => by have := lt4 (gdn (by decide) x); rw [e] at this; simp only [bOf] at *; omega,
    fun x y => h.n48 (gdn (by decide) x) (gdn (by decide) y),
    fun x y => h.n14 (gdn (by decide) x) (gdn (by decide) y),
    fun x => by rw [getD_set_ne false (by decide)]; exact h.d9 (gdn (by decide) x),
    fun x => by rw [getD_set_ne false (by decide)]; exact h.d10 (gdn (by decide) x),
    fun x => by rw [getD_listed (by rw [h.sz]; decide)]; simp only [h.d95 (gdn (by decide) x), Bool.or_true],
    fun x => by rw [getD_listed (by rw [h.sz]; decide)]; simp only [h.d106 (gdn (by decide) x), Bool.or_true]⟩
theorem PInv.op8 (h : PInv W dv ds N gb L v13 v14 v15 v16 v25 v26 v27 v28 v29 w)  : PInv W dv ds N gb (L.setIfInBounds 8 true) v13 v14 v15 (.pointer (some ⟨w.heap.size, 0, none⟩)) v25 v26 v27 v28 v29 (w.alloc (.cells #[.int .i64 0] 3)) :=
  by
  have hl0 := h.bel.size
  have lt1 := h.lt1
  have lt4 := h.lt4
  have lt7 := h.lt7
  have lt8 := h.lt8
  have h := h.mono (w' := w.alloc (.cells #[.int .i64 0] 3)) ((Below.refl _ _).alloc (Nat.le_refl _) _)
  exact ⟨by simp [h.sz],
    h.bel,
    fun x => h.h0 (gdn (by decide) x),
    fun x => h.h1 (gdn (by decide) x),
    fun x => h.h2 (gdn (by decide) x),
    fun x => h.h3 (gdn (by decide) x),
    fun x => h.h4 (gdn (by decide) x),
    fun x => by obtain ⟨b', e, hl, u, hb', hu⟩ := h.h5 (gdn (by decide) x); exact ⟨b', e, hl, u, hb', fun y => hu (gdn (by decide) y)⟩,
    fun x => by obtain ⟨b', e, hl, u, hb', hu⟩ := h.h6 (gdn (by decide) x); exact ⟨b', e, hl, u, hb', fun y => hu (gdn (by decide) y)⟩,
    fun x => h.h7 (gdn (by decide) x),
    fun _ => ⟨_, rfl, hl0, Boxed.new _ _ _⟩,
    fun x _ => fun e => by have := lt7 (gdn (by decide) x); rw [e] at this; simp only [bOf] at *; omega,
    fun x y => h.n17 (gdn (by decide) x) (gdn (by decide) y),
    fun x _ => fun e => by have := lt1 (gdn (by decide) x); rw [e] at this; simp only [bOf] at *; omega,
    fun x y => h.n47 (gdn (by decide) x) (gdn (by decide) y),
    fun x _ => fun e => by have := lt4 (gdn (by decide) x); rw [e] at this; simp only [bOf] at *; omega,
    fun x y => h.n14 (gdn (by decide) x) (gdn (by decide) y),
    fun x => by rw [getD_set_ne false (by decide)]; exact h.d9 (gdn (by decide) x),
    fun x => by rw [getD_set_ne false (by decide)]; exact h.d10 (gdn (by decide) x),
    fun x => by rw [getD_listed (by rw [h.sz]; decide)]; simp only [h.d95 (gdn (by decide) x), Bool.or_true],
    fun x => by rw [getD_listed (by rw [h.sz]; decide)]; simp only [h.d106 (gdn (by decide) x), Bool.or_true]⟩
theorem PInv.op9 (h : PInv W dv ds N gb L v13 v14 v15 v16 v25 v26 v27 v28 v29 w) (hdp : L.getD 1 false = true) (hdo : L.getD 5 false = true) {b : Nat} {u : Value} (hv : v13 = .pointer (some ⟨b, 0, none⟩)) (hle : W.heap.size ≤ b) (hb : Boxed w b 26 u) : PInv W dv ds N gb (L.setIfInBounds 9 true) v13 v14 v15 v16 v25 v26 v27 v28 v29 (w.setCell ⟨b, 0, none⟩ v26) :=
  ⟨by simp [h.sz],
    h.bel.setCell (p := ⟨b, 0, none⟩) hle _,
    fun x => h.h0 (gdn (by decide) x),
    fun x => by obtain ⟨cb, cc, e, ho⟩ := h.h1 (gdn (by decide) x); exact ⟨cb, cc, e, owns_other ho (nr_ne hb (by decide) ho) 0 _⟩,
    fun x => h.h2 (gdn (by decide) x),
    fun x => h.h3 (gdn (by decide) x),
    fun x => by obtain ⟨cb, e, ho⟩ := h.h4 (gdn (by decide) x); exact ⟨cb, e, owns_other ho (nr_ne hb (by decide) ho) 0 _⟩,
    fun _ => ⟨b, hv, hle, v26, hb.set _, fun _ => rfl⟩,
    fun x => by obtain ⟨b', e, hl, u, hb', hu⟩ := h.h6 (gdn (by decide) x); exact ⟨b', e, hl, u, hb'.other (boxed_ne hb' hb (by decide)) _, fun y => hu (gdn (by decide) y)⟩,
    fun x => by obtain ⟨b', e, hl, hb'⟩ := h.h7 (gdn (by decide) x); exact ⟨b', e, hl, hb'.other (boxed_ne hb' hb (by decide)) _⟩,
    fun x => by obtain ⟨b', e, hl, hb'⟩ := h.h8 (gdn (by decide) x); exact ⟨b', e, hl, hb'.other (boxed_ne hb' hb (by decide)) _⟩,
    fun x y => h.n78 (gdn (by decide) x) (gdn (by decide) y),
    fun x y => h.n17 (gdn (by decide) x) (gdn (by decide) y),
    fun x y => h.n18 (gdn (by decide) x) (gdn (by decide) y),
    fun x y => h.n47 (gdn (by decide) x) (gdn (by decide) y),
    fun x y => h.n48 (gdn (by decide) x) (gdn (by decide) y),
    fun x y => h.n14 (gdn (by decide) x) (gdn (by decide) y),
    fun _ => by rw [getD_set_ne false (by decide)]; exact hdp,
    fun x => by rw [getD_set_ne false (by decide)]; exact h.d10 (gdn (by decide) x),
    fun _ => by rw [getD_set_ne false (by decide)]; exact hdo,
    fun x => by rw [getD_listed (by rw [h.sz]; decide)]; simp only [h.d106 (gdn (by decide) x), Bool.or_true]⟩
theorem PInv.op10 (h : PInv W dv ds N gb L v13 v14 v15 v16 v25 v26 v27 v28 v29 w) (hdp : L.getD 4 false = true) (hdo : L.getD 6 false = true) {b : Nat} {u : Value} (hv : v14 = .pointer (some ⟨b, 0, none⟩)) (hle : W.heap.size ≤ b) (hb : Boxed w b 27 u) : PInv W dv ds N gb (L.setIfInBounds 10 true) v13 v14 v15 v16 v25 v26 v27 v28 v29 (w.setCell ⟨b, 0, none⟩ v29) :=
  ⟨by simp [h.sz],
    h.bel.setCell (p := ⟨b, 0, none⟩) hle _,
    fun x => h.h0 (gdn (by decide) x),
    fun x => by obtain ⟨cb, cc, e, ho⟩ := h.h1 (gdn (by decide) x); exact ⟨cb, cc, e, owns_other ho (nr_ne hb (by decide) ho) 0 _⟩,
    fun x => h.h2 (gdn (by decide) x),
    fun x => h.h3 (gdn (by decide) x),
    fun x => by obtain ⟨cb, e, ho⟩ := h.h4 (gdn (by decide) x); exact ⟨cb, e, owns_other ho (nr_ne hb (by decide) ho) 0 _⟩,
    fun x => by obtain ⟨b', e, hl, u, hb', hu⟩ := h.h5 (gdn (by decide) x); exact ⟨b', e, hl, u, hb'.other (boxed_ne hb' hb (by decide)) _, fun y => hu (gdn (by decide) y)⟩,
    fun _ => ⟨b, hv, hle, v29, hb.set _, fun _ => rfl⟩,
    fun x => by obtain ⟨b', e, hl, hb'⟩ := h.h7 (gdn (by decide) x); exact ⟨b', e, hl, hb'.other (boxed_ne hb' hb (by decide)) _⟩,
    fun x => by obtain ⟨b', e, hl, hb'⟩ := h.h8 (gdn (by decide) x); exact ⟨b', e, hl, hb'.other (boxed_ne hb' hb (by decide)) _⟩,
    fun x y => h.n78 (gdn (by decide) x) (gdn (by decide) y),
    fun x y => h.n17 (gdn (by decide) x) (gdn (by decide) y),
    fun x y => h.n18 (gdn (by decide) x) (gdn (by decide) y),
    fun x y => h.n47 (gdn (by decide) x) (gdn (by decide) y),
    fun x y => h.n48 (gdn (by decide) x) (gdn (by decide) y),
    fun x y => h.n14 (gdn (by decide) x) (gdn (by decide) y),
    fun x => by rw [getD_set_ne false (by decide)]; exact h.d9 (gdn (by decide) x),
    fun _ => by rw [getD_set_ne false (by decide)]; exact hdp,
    fun x => by rw [getD_listed (by rw [h.sz]; decide)]; simp only [h.d95 (gdn (by decide) x), Bool.or_true],
    fun _ => by rw [getD_set_ne false (by decide)]; exact hdo⟩
theorem PInv.op11 (h : PInv W dv ds N gb L v13 v14 v15 v16 v25 v26 v27 v28 v29 w) (hown : L.getD 7 false = true) {b : Nat} (hv : v15 = .pointer (some ⟨b, 0, none⟩)) (hle : W.heap.size ≤ b) (hb : Boxed w b 3 (.int .i64 0)) : PInv W dv ds N gb (L.setIfInBounds 11 true) v13 v14 v15 v16 v25 v26 v27 v28 v29 (w.setCell ⟨b, 0, none⟩ (.int .i64 0)) :=
  ⟨by simp [h.sz],
    h.bel.setCell (p := ⟨b, 0, none⟩) hle _,
    fun x => h.h0 (gdn (by decide) x),
    fun x => by obtain ⟨cb, cc, e, ho⟩ := h.h1 (gdn (by decide) x); exact ⟨cb, cc, e, owns_other ho (fun eb => h.n17 (gdn (by decide) x) hown (by rw [e, hv, eb]; rfl)) 0 _⟩,
    fun x => h.h2 (gdn (by decide) x),
    fun x => h.h3 (gdn (by decide) x),
    fun x => by obtain ⟨cb, e, ho⟩ := h.h4 (gdn (by decide) x); exact ⟨cb, e, owns_other ho (fun eb => h.n47 (gdn (by decide) x) hown (by rw [e, hv, eb]; rfl)) 0 _⟩,
    fun x => by obtain ⟨b', e, hl, u, hb', hu⟩ := h.h5 (gdn (by decide) x); exact ⟨b', e, hl, u, hb'.other (boxed_ne hb' hb (by decide)) _, fun y => hu (gdn (by decide) y)⟩,
    fun x => by obtain ⟨b', e, hl, u, hb', hu⟩ := h.h6 (gdn (by decide) x); exact ⟨b', e, hl, u, hb'.other (boxed_ne hb' hb (by decide)) _, fun y => hu (gdn (by decide) y)⟩,
    fun _ => ⟨b, hv, hle, hb.set _⟩,
    fun x => by obtain ⟨b', e, hl, hb'⟩ := h.h8 (gdn (by decide) x); exact ⟨b', e, hl, hb'.other (fun eb => h.n78 hown (gdn (by decide) x) (by rw [hv, e, eb])) _⟩,
    fun x y => h.n78 (gdn (by decide) x) (gdn (by decide) y),
    fun x y => h.n17 (gdn (by decide) x) (gdn (by decide) y),
    fun x y => h.n18 (gdn (by decide) x) (gdn (by decide) y),
    fun x y => h.n47 (gdn (by decide) x) (gdn (by decide) y),
    fun x y => h.n48 (gdn (by decide) x) (gdn (by decide) y),
    fun x y => h.n14 (gdn (by decide) x) (gdn (by decide) y),
    fun x => by rw [getD_set_ne false (by decide)]; exact h.d9 (gdn (by decide) x),
    fun x => by rw [getD_set_ne false (by decide)]; exact h.d10 (gdn (by decide) x),
    fun x => by rw [getD_listed (by rw [h.sz]; decide)]; simp only [h.d95 (gdn (by decide) x), Bool.or_true],
    fun x => by rw [getD_listed (by rw [h.sz]; decide)]; simp only [h.d106 (gdn (by decide) x), Bool.or_true]⟩
theorem PInv.op12 (h : PInv W dv ds N gb L v13 v14 v15 v16 v25 v26 v27 v28 v29 w) (hown : L.getD 8 false = true) {b : Nat} (hv : v16 = .pointer (some ⟨b, 0, none⟩)) (hle : W.heap.size ≤ b) (hb : Boxed w b 3 (.int .i64 0)) : PInv W dv ds N gb (L.setIfInBounds 12 true) v13 v14 v15 v16 v25 v26 v27 v28 v29 (w.setCell ⟨b, 0, none⟩ (.int .i64 0)) :=
  ⟨by simp [h.sz],
    h.bel.setCell (p := ⟨b, 0, none⟩) hle _,
    fun x => h.h0 (gdn (by decide) x),
    fun x => by obtain ⟨cb, cc, e, ho⟩ := h.h1 (gdn (by decide) x); exact ⟨cb, cc, e, owns_other ho (fun eb => h.n18 (gdn (by decide) x) hown (by rw [e, hv, eb]; rfl)) 0 _⟩,
    fun x => h.h2 (gdn (by decide) x),
    fun x => h.h3 (gdn (by decide) x),
    fun x => by obtain ⟨cb, e, ho⟩ := h.h4 (gdn (by decide) x); exact ⟨cb, e, owns_other ho (fun eb => h.n48 (gdn (by decide) x) hown (by rw [e, hv, eb]; rfl)) 0 _⟩,
    fun x => by obtain ⟨b', e, hl, u, hb', hu⟩ := h.h5 (gdn (by decide) x); exact ⟨b', e, hl, u, hb'.other (boxed_ne hb' hb (by decide)) _, fun y => hu (gdn (by decide) y)⟩,
    fun x => by obtain ⟨b', e, hl, u, hb', hu⟩ := h.h6 (gdn (by decide) x); exact ⟨b', e, hl, u, hb'.other (boxed_ne hb' hb (by decide)) _, fun y => hu (gdn (by decide) y)⟩,
    fun x => by obtain ⟨b', e, hl, hb'⟩ := h.h7 (gdn (by decide) x); exact ⟨b', e, hl, hb'.other (fun eb => h.n78 (gdn (by decide) x) hown (by rw [hv, e, eb])) _⟩,
    fun _ => ⟨b, hv, hle, hb.set _⟩,
    fun x y => h.n78 (gdn (by decide) x) (gdn (by decide) y),
    fun x y => h.n17 (gdn (by decide) x) (gdn (by decide) y),
    fun x y => h.n18 (gdn (by decide) x) (gdn (by decide) y),
    fun x y => h.n47 (gdn (by decide) x) (gdn (by decide) y),
    fun x y => h.n48 (gdn (by decide) x) (gdn (by decide) y),
    fun x y => h.n14 (gdn (by decide) x) (gdn (by decide) y),
    fun x => by rw [getD_set_ne false (by decide)]; exact h.d9 (gdn (by decide) x),
    fun x => by rw [getD_set_ne false (by decide)]; exact h.d10 (gdn (by decide) x),
    fun x => by rw [getD_listed (by rw [h.sz]; decide)]; simp only [h.d95 (gdn (by decide) x), Bool.or_true],
    fun x => by rw [getD_listed (by rw [h.sz]; decide)]; simp only [h.d106 (gdn (by decide) x), Bool.or_true]⟩
-- END OPS

/-- All is laid. -/
structure PL (W : World) (ds : List Int) (N : Nat) (b13 b14 b15 b16 cb cc zb : Nat) (w : World) : Prop where
  bel : Below W.heap.size W w
  out : Boxed w b13 26 (.slice (some ⟨cb, 0, none⟩) N cc)
  row : w.ownsRow W.heap.size 3 1 (.slice (some ⟨cb, 0, none⟩) N cc) N (ds.map (Value.int .i64))
  s : Boxed w b14 27 (.slice (some ⟨zb, 0, none⟩) N N)
  srow : w.ownsRow W.heap.size 3 1 (.slice (some ⟨zb, 0, none⟩) N N) N ((vecOf N fun _ => 0).map (Value.int .i64))
  n : Boxed w b15 3 (.int .i64 0)
  f : Boxed w b16 3 (.int .i64 0)
  l13 : W.heap.size ≤ b13
  l14 : W.heap.size ≤ b14
  l15 : W.heap.size ≤ b15
  l16 : W.heap.size ≤ b16
  n78 : b15 ≠ b16
  n17 : cb ≠ b15
  n18 : cb ≠ b16
  n47 : zb ≠ b15
  n48 : zb ≠ b16
  n14 : cb ≠ zb
theorem PInv.out (h : PInv W dv ds N gb L v13 v14 v15 v16 v25 v26 v27 v28 v29 w) (hL : ∀ k, k < 13 → L.getD k false = true) :
    ∃ b13 b14 b15 b16 cb cc zb, v13 = .pointer (some ⟨b13, 0, none⟩) ∧ v14 = .pointer (some ⟨b14, 0, none⟩) ∧ v15 = .pointer (some ⟨b15, 0, none⟩) ∧ v16 = .pointer (some ⟨b16, 0, none⟩) ∧ PL W ds N b13 b14 b15 b16 cb cc zb w := by
  have n78 := h.n78 (hL 7 (by decide)) (hL 8 (by decide))
  have n17 := h.n17 (hL 1 (by decide)) (hL 7 (by decide))
  have n18 := h.n18 (hL 1 (by decide)) (hL 8 (by decide))
  have n47 := h.n47 (hL 4 (by decide)) (hL 7 (by decide))
  have n48 := h.n48 (hL 4 (by decide)) (hL 8 (by decide))
  have n14 := h.n14 (hL 1 (by decide)) (hL 4 (by decide))
  have hB := h.bel
  obtain ⟨cb, cc, rfl, h1⟩ := h.h1 (hL 1 (by decide))
  obtain ⟨zb, rfl, h4⟩ := h.h4 (hL 4 (by decide))
  obtain ⟨b13, rfl, l13, u5, h5, e5⟩ := h.h5 (hL 5 (by decide))
  obtain ⟨b14, rfl, l14, u6, h6, e6⟩ := h.h6 (hL 6 (by decide))
  obtain ⟨b15, rfl, l15, h7⟩ := h.h7 (hL 7 (by decide))
  obtain ⟨b16, rfl, l16, h8⟩ := h.h8 (hL 8 (by decide))
  obtain rfl := e5 (hL 9 (by decide))
  obtain rfl := e6 (hL 10 (by decide))
  simp only [bOf] at *
  exact ⟨b13, b14, b15, b16, cb, cc, zb, rfl, rfl, rfl, rfl, hB, h5, h1, h6, h4, h7, h8, l13, l14, l15, l16, by omega, by omega, by omega, by omega, by omega, by omega⟩
end

end Go.Proofs.YtbjoblkigbphhaaGreat

namespace Go.Proofs.YtbjoblkigbphhaaGreat
set_option linter.unusedSimpArgs false
set_option linter.unusedVariables false
open Go.RowKit Go.Shelf

/-- So many rounds, in each of which something fires. -/
def goesN (g : G) (q : Int) (N : Nat) (ds : List Int) (R : Nat) : Prop := ∀ i, i < R → rdyN g q N (rndTo g q N (s0Of ds) i).L ≠ []
/-- The game is handed back. -/
def RetPl (g : G) (q : Int) (N : Nat) (ds : List Int) (w : World) (e : Ending) (w' : World) : Prop :=
  Below w.heap.size w w' ∧
  ((∃ R, goesN g q N ds R ∧ (maxF : Int) < sumTo (rndTo g q N (s0Of ds) R).T N ∧ e = .returned (.tuple #[.slice none 0 0, .slice none 0 0, .int .i64 0, .int .i64 12])) ∨
   (∃ R, goesN g q N ds R ∧ sumTo (rndTo g q N (s0Of ds) R).T N ≤ (maxF : Int) ∧ rdyN g q N (rndTo g q N (s0Of ds) R).L = [] ∧
      ((bddB N (rndTo g q N (s0Of ds) R).L = false ∧ e = .returned (.tuple #[.slice none 0 0, .slice none 0 0, .int .i64 0, .int .i64 11])) ∨
       (bddB N (rndTo g q N (s0Of ds) R).L = true ∧ ∃ va vs, e = .returned (.tuple #[va, vs, .int .i64 R, .int .i64 0]) ∧ w'.ownsRow w.heap.size 3 1 va N ((vecOf N (rndTo g q N (s0Of ds) R).L).map (Value.int .i64)) ∧
          w'.ownsRow w.heap.size 3 1 vs N ((vecOf N (rndTo g q N (s0Of ds) R).T).map (Value.int .i64))))))

/-- The boxes that the game lays first. -/
structure PB (W : World) (n0 bg bk r8 r9 r10 r11 : Nat) (gc : Array Value) (v8 v9 v10 v11 : Value) : Prop where
  g : Blk W bg gc 24
  k : Boxed W bk 3 (.int .i64 (-1))
  b8 : Boxed W r8 26 v8
  b9 : Boxed W r9 27 v9
  b10 : Boxed W r10 3 v10
  b11 : Boxed W r11 34 v11
  o : n0 ≤ bg ∧ bg < bk ∧ bk < r8 ∧ r8 < r9 ∧ r9 < r10 ∧ r10 < r11
theorem PB.below {W W' : World} {n0 bg bk r8 r9 r10 r11 : Nat} {gc : Array Value} {v8 v9 v10 v11 : Value} (h : PB W n0 bg bk r8 r9 r10 r11 gc v8 v9 v10 v11) (hB : Below W.heap.size W W') : PB W' n0 bg bk r8 r9 r10 r11 gc v8 v9 v10 v11 :=
  ⟨h.g.below hB, boxed_below h.k hB, boxed_below h.b8 hB, boxed_below h.b9 hB, boxed_below h.b10 hB, boxed_below h.b11 hB, h.o⟩
theorem pb_new (w : World) (gc : Array Value) : ∃ W0 bg bk r8 r9 r10 r11, W0 = (((((w.alloc (.cells gc 24)).alloc (.cells #[.int .i64 (-1)] 3)).alloc (.cells #[.slice none 0 0] 26)).alloc (.cells #[.slice none 0 0] 27)).alloc (.cells #[.int .i64 0] 3)).alloc (.cells #[.int .i64 0] 34) ∧
    bg = w.heap.size ∧ bk = w.heap.size + 1 ∧ r8 = w.heap.size + 1 + 1 ∧ r9 = w.heap.size + 1 + 1 + 1 ∧ r10 = w.heap.size + 1 + 1 + 1 + 1 ∧ r11 = w.heap.size + 1 + 1 + 1 + 1 + 1 ∧
    PB W0 w.heap.size bg bk r8 r9 r10 r11 gc (.slice none 0 0) (.slice none 0 0) (.int .i64 0) (.int .i64 0) ∧ Below w.heap.size w W0 ∧ r11 < W0.heap.size := by
  refine ⟨_, _, _, _, _, _, _, rfl, rfl, rfl, rfl, rfl, rfl, rfl, ⟨?_, ?_, ?_, ?_, ?_, ?_, by omega⟩, by go_grown, by simp⟩
  · exact ((((Blk.new w _ _).alloc _).alloc _).alloc _).alloc _ |>.alloc _
  · have := ((((Boxed.new (w.alloc (.cells gc 24)) 3 (.int .i64 (-1))).alloc (.cells #[.slice none 0 0] 26)).alloc (.cells #[.slice none 0 0] 27)).alloc (.cells #[.int .i64 0] 3)).alloc (.cells #[.int .i64 0] 34)
    rwa [World.size_alloc] at this
  · have := (((Boxed.new ((w.alloc (.cells gc 24)).alloc (.cells #[.int .i64 (-1)] 3)) 26 (.slice none 0 0)).alloc (.cells #[.slice none 0 0] 27)).alloc (.cells #[.int .i64 0] 3)).alloc (.cells #[.int .i64 0] 34)
    simp only [World.size_alloc] at this; exact this
  · have := ((Boxed.new (((w.alloc (.cells gc 24)).alloc (.cells #[.int .i64 (-1)] 3)).alloc (.cells #[.slice none 0 0] 26)) 27 (.slice none 0 0)).alloc (.cells #[.int .i64 0] 3)).alloc (.cells #[.int .i64 0] 34)
    simp only [World.size_alloc] at this; exact this
  · have := (Boxed.new ((((w.alloc (.cells gc 24)).alloc (.cells #[.int .i64 (-1)] 3)).alloc (.cells #[.slice none 0 0] 26)).alloc (.cells #[.slice none 0 0] 27)) 3 (.int .i64 0)).alloc (.cells #[.int .i64 0] 34)
    simp only [World.size_alloc] at this; exact this
  · have := Boxed.new (((((w.alloc (.cells gc 24)).alloc (.cells #[.int .i64 (-1)] 3)).alloc (.cells #[.slice none 0 0] 26)).alloc (.cells #[.slice none 0 0] 27)).alloc (.cells #[.int .i64 0] 3)) 34 (.int .i64 0)
    simp only [World.size_alloc] at this; exact this


theorem KeptC.weaken {n n' : Nat} {p p' : Nat → Prop} {W W' : World} (h : KeptC n p W W') (hn : n' ≤ n) (hp : ∀ k, p k → p' k) : KeptC n' p' W W' :=
  ⟨h.low.mono hn, fun k o hk ho hn => h.same k o hk ho fun h => hn (hp k h)⟩
theorem keptC_grown {n₀ : Nat} {W W' : World} {row : Option Nat} (hg : W.grownBy W' row) (hr : ∀ r, row = some r → n₀ ≤ r ∧ ∃ o : Obj, W.heap[r]? = some o ∧ o.isCells = false) (hn : n₀ ≤ W.heap.size) : KeptC n₀ (fun _ => False) W W' :=
  ⟨⟨hg.os, hg.tape, hg.output, hg.size, fun k hk => hg.block k (by omega) (fun e => by have := (hr k e.symm).1; omega)⟩,
    fun k o hk ho _ => (hg.block k (Array.getElem?_eq_some_iff.1 hk).1 (fun e => by obtain ⟨_, o', ho', hc⟩ := hr k e.symm; rw [hk] at ho'; cases ho'; rw [ho] at hc; cases hc)).trans hk⟩
theorem PB.keptC {W W' : World} {n0 bg bk r8 r9 r10 r11 : Nat} {gc : Array Value} {v8 v9 v10 v11 : Value} {m : Nat} {p : Nat → Prop} (h : PB W n0 bg bk r8 r9 r10 r11 gc v8 v9 v10 v11) (hk : KeptC m p W W') (hp : ∀ k, p k → r11 < k) : PB W' n0 bg bk r8 r9 r10 r11 gc v8 v9 v10 v11 := by
  have ho := h.o
  exact ⟨hk.blk h.g (fun x => by have := hp _ x; omega), boxed_keptC h.k hk (fun x => by have := hp _ x; omega), boxed_keptC h.b8 hk (fun x => by have := hp _ x; omega), boxed_keptC h.b9 hk (fun x => by have := hp _ x; omega), boxed_keptC h.b10 hk (fun x => by have := hp _ x; omega), boxed_keptC h.b11 hk (fun x => by have := hp _ x; omega), h.o⟩

/-- How the blocks of the game lie. -/
structure PO (r11 b13 b14 b15 b16 zb Dx : Nat) : Prop where
  lo : r11 < b13 ∧ r11 < b14 ∧ r11 < b15 ∧ r11 < b16 ∧ r11 < zb
  hi : b13 < Dx ∧ b14 < Dx ∧ b15 < Dx ∧ b16 < Dx ∧ zb < Dx
  ne : b15 ≠ b16 ∧ zb ≠ b15 ∧ zb ≠ b16
/-- What lies there between two rounds of the game. -/
structure PI (g : G) (q : Int) (N : Nat) (ds : List Int) (w : World) (bg bk r8 r9 r10 r11 b13 b14 b15 b16 zb Dx : Nat) (gc : Array Value) (pre : List (Value × Value)) (W : World) : Prop where
  pb : PB W w.heap.size bg bk r8 r9 r10 r11 gc (.slice none 0 0) (.slice none 0 0) (.int .i64 0) (.int .i64 0)
  out : ∃ oa oc, Boxed W b13 26 (.slice oa N oc) ∧ W.ownsRow (r11 + 1) 3 1 (.slice oa N oc) N ((vecOf N (rndTo g q N (s0Of ds) pre.length).L).map (Value.int .i64)) ∧ offP (fun k => k = zb ∨ k = b15 ∨ k = b16 ∨ k = Dx) (.slice oa N oc)
  s : Boxed W b14 27 (.slice (some ⟨zb, 0, none⟩) N N)
  srow : W.ownsRow w.heap.size 3 1 (.slice (some ⟨zb, 0, none⟩) N N) N ((vecOf N (rndTo g q N (s0Of ds) pre.length).T).map (Value.int .i64))
  n : Boxed W b15 3 (.int .i64 pre.length)
  f : Boxed W b16 3 (.int .i64 (sumTo (rndTo g q N (s0Of ds) pre.length).T N))
  goes : goesN g q N ds pre.length
  le : sumTo (rndTo g q N (s0Of ds) pre.length).T N ≤ (maxF : Int)
  bel : Below w.heap.size w W
theorem ownBlock_off {p : Nat → Prop} {v : Value} (h : offP p v) : ∀ k, v.ownBlock = some k → ¬ p k := by
  intro k e
  unfold Value.ownBlock at e
  split at e
  · rename_i b n c
    injection e with e
    subst e
    exact h _ _ _ rfl
  · cases e
theorem PI.keptC {g : G} {q : Int} {N : Nat} {ds : List Int} {w : World} {bg bk r8 r9 r10 r11 b13 b14 b15 b16 zb Dx : Nat} {gc : Array Value} {pre : List (Value × Value)} {W W' : World} (h : PI g q N ds w bg bk r8 r9 r10 r11 b13 b14 b15 b16 zb Dx gc pre W) (ho : PO r11 b13 b14 b15 b16 zb Dx) {p : Nat → Prop} (hk : KeptC w.heap.size p W W') (hp : ∀ k, p k → k = Dx) : PI g q N ds w bg bk r8 r9 r10 r11 b13 b14 b15 b16 zb Dx gc pre W' := by
  obtain ⟨⟨l1, l2, l3, l4, l5⟩, ⟨h1, h2, h3, h4, h5⟩, _⟩ := ho
  obtain ⟨oa, oc, q1, q2, q3⟩ := h.out
  have hd : ∀ k, k < Dx → ¬ p k := fun k hk hpk => by have := hp k hpk; omega
  exact ⟨h.pb.keptC hk (fun k hpk => by have := hp k hpk; omega), ⟨oa, oc, boxed_keptC q1 hk (hd _ h1), hk.row q2 (fun k e hpk => ownBlock_off q3 k e (.inr (.inr (.inr (hp k hpk))))), q3⟩, boxed_keptC h.s hk (hd _ h2), hk.row h.srow (fun k e => Option.some.inj e ▸ hd zb h5), boxed_keptC h.n hk (hd _ h3), boxed_keptC h.f hk (hd _ h4), h.goes, h.le, h.bel.trans hk.low⟩
/-- What lies there when too much has fired. -/
structure PX (g : G) (q : Int) (N : Nat) (ds : List Int) (w : World) (bg bk r8 r9 r10 r11 b13 b14 b15 b16 zb Dx : Nat) (gc : Array Value) (pre : List (Value × Value)) (W : World) : Prop where
  pb : PB W w.heap.size bg bk r8 r9 r10 r11 gc (.slice none 0 0) (.slice none 0 0) (.int .i64 0) (.int .i64 12)
  goes : goesN g q N ds pre.length
  gt : (maxF : Int) < sumTo (rndTo g q N (s0Of ds) pre.length).T N
  bel : Below w.heap.size w W
theorem PX.keptC {g : G} {q : Int} {N : Nat} {ds : List Int} {w : World} {bg bk r8 r9 r10 r11 b13 b14 b15 b16 zb Dx : Nat} {gc : Array Value} {pre : List (Value × Value)} {W W' : World} (h : PX g q N ds w bg bk r8 r9 r10 r11 b13 b14 b15 b16 zb Dx gc pre W) (ho : PO r11 b13 b14 b15 b16 zb Dx) {p : Nat → Prop} (hk : KeptC w.heap.size p W W') (hp : ∀ k, p k → k = Dx) : PX g q N ds w bg bk r8 r9 r10 r11 b13 b14 b15 b16 zb Dx gc pre W' := by
  obtain ⟨⟨l1, l2, l3, l4, l5⟩, ⟨h1, h2, h3, h4, h5⟩, _⟩ := ho
  exact ⟨h.pb.keptC hk (fun k hpk => by have := hp k hpk; omega), h.goes, h.gt, h.bel.trans hk.low⟩
theorem goesN_snoc {g : G} {q : Int} {N : Nat} {ds : List Int} {R : Nat} (h : goesN g q N ds R) (hr : rdyN g q N (rndTo g q N (s0Of ds) R).L ≠ []) : goesN g q N ds (R + 1) := fun i hi => by
  by_cases e : i = R
  · subst e; exact hr
  · exact h i (by omega)
theorem sumTo_nil : ∀ n, sumTo (fun _ => 0) n = 0
  | 0 => rfl
  | n + 1 => by unfold sumTo; rw [sumTo_nil n]; rfl
theorem goesN_le {g : G} {q : Int} {N : Nat} {ds : List Int} {R : Nat} (h : goesN g q N ds R) : (R : Int) ≤ sumTo (rndTo g q N (s0Of ds) R).T N := by
  have := rndTo_sum_ge g q N (s0Of ds) R h R (Nat.le_refl _)
  have h0 : sumTo (s0Of ds).T N = 0 := sumTo_nil N
  omega
theorem rndTo_nn (g : G) (q : Int) (N : Nat) (ds : List Int) : ∀ k u, 0 ≤ (rndTo g q N (s0Of ds) k).T u
  | 0, u => Int.le_refl _
  | k + 1, u => by
    show 0 ≤ (rnd g q N (rndTo g q N (s0Of ds) k)).T u
    rw [rnd_T]
    exact cnt_nn _ _ (rndTo_nn g q N ds k) u
theorem cntAll_le : ∀ (l : List Int) (T : Nat → Int) (u : Nat), cntAll l T u ≤ T u + l.length
  | [], T, u => by simp [cntAll]
  | v :: l, T, u => by
    have := cntAll_le l (addT T v.toNat 1) u
    show cntAll l (addT T v.toNat 1) u ≤ _
    have h2 : addT T v.toNat 1 u ≤ T u + 1 := by unfold addT; split <;> omega
    simp only [List.length_cons]; omega

theorem vec_dOf {ds : List Int} {N : Nat} (h : ds.length = N) : vecOf N (dOf ds) = ds := by
  subst h
  show (List.range ds.length).map (fun u => ds[u]?.getD 0) = ds
  apply List.ext_getElem
  · simp
  · intro i h1 h2
    simp [h2]
theorem ints_off {w : World} {v : Value} {xs : List Int} (h : IntsR w v xs) (h0 : 0 < xs.length) {p : Nat → Prop} (hp : ∀ k, p k → w.heap.size ≤ k) : offP p v := by
  obtain ⟨a, cap, rfl, _, _, _, hc⟩ := h
  obtain ⟨b, off, rfl, hb, _⟩ := hc.int h0
  intro a' n' c' e hpk
  injection e with e _ _
  injection e with e
  subst e
  have := hp _ hpk
  dsimp only at this
  omega
theorem ex_own (g : G) (q : Int) (N : Nat) (s : St) (n₁ B : Nat) (pre : List (Value × Value)) : OwnFrom B (EX g q N s n₁ pre) := by
  rintro x W W' row ⟨h1, h2, h3⟩ hg hr
  have hk := keptC_grown (n₀ := 0) hg (fun r e => ⟨Nat.zero_le _, (hr r e).2⟩) (Nat.zero_le _)
  exact ⟨h1, hk.row h2 (fun _ _ h => h.elim), hk.row h3 (fun _ _ h => h.elim)⟩

theorem KeptC.setAt (W : World) (D o : Nat) (v : Value) : KeptC D (· = D) W (W.setCell ⟨D, o, none⟩ v) :=
  ⟨(Below.refl D W).setCell (p := ⟨D, o, none⟩) (Nat.le_refl D) v, fun k ob hk _ hp => (Below.heap_setCell W ⟨D, o, none⟩ v k hp).trans hk⟩
theorem own_ge {w : World} {base : Nat} {t : TypeId} {sz : Nat} {v : Value} {n : Nat} {cs : List Value} (h : w.ownsRow base t sz v n cs) : ∀ k, v.ownBlock = some k → base ≤ k := by
  intro k e
  rcases h.2 with h2 | ⟨b, c, cells, hv, hb, r⟩
  · rw [h2.1] at e; cases e
  · rw [hv] at e
    obtain rfl : b = k := Option.some.inj e
    exact hb
theorem addT_set {N : Nat} (T : Nat → Int) (v : Nat) : vecOf N (fun i => if i = v then T v + 1 else T i) = vecOf N (addT T v 1) := vecOf_congr N _ _ fun u _ => by
  show (if u = v then T v + 1 else T u) = if u = v then T u + 1 else T u
  split
  · rename_i e; subst e; rfl
  · rfl

theorem PI.next {g : G} {q : Int} {N : Nat} {ds : List Int} {w : World} {bg bk r8 r9 r10 r11 b13 b14 b15 b16 zb Dx : Nat} {gc : Array Value} {pre : List (Value × Value)} {W W4 W5 : World} (h : PI g q N ds w bg bk r8 r9 r10 r11 b13 b14 b15 b16 zb Dx gc pre W) (ho : PO r11 b13 b14 b15 b16 zb Dx)
    (hne : rdyN g q N (rndTo g q N (s0Of ds) pre.length).L ≠ []) {n₁ xc : Nat} {xa : Option Addr} (x1 : Value) (hr2 : W.ownsRow n₁ 3 1 (.slice xa N xc) N ((vecOf N (rndTo g q N (s0Of ds) (pre.length + 1)).L).map (Value.int .i64))) (hn1 : Dx < n₁)
    (h4 : KeptC b16 (· = b16) W W4) {S : Int} (hb16 : Boxed W4 b16 3 (.int .i64 S)) (hS : S = sumTo (rndTo g q N (s0Of ds) (pre.length + 1)).T N) (hle : S ≤ (maxF : Int))
    (h5 : KeptC w.heap.size (fun k => k = zb) W4 W5) (hz : W5.ownsRow w.heap.size 3 1 (.slice (some ⟨zb, 0, none⟩) N N) N ((vecOf N (rndTo g q N (s0Of ds) (pre.length + 1)).T).map (Value.int .i64))) :
    KeptC w.heap.size (fun k => k = b13 ∨ k = b15 ∨ k = b16 ∨ k = zb) W ((W5.setCell ⟨b13, 0, none⟩ (.slice xa N xc)).setCell ⟨b15, 0, none⟩ (.int .i64 ((pre.length : Int) + 1))) ∧
    PI g q N ds w bg bk r8 r9 r10 r11 b13 b14 b15 b16 zb Dx gc (pre ++ [(x1, .slice xa N xc)]) ((W5.setCell ⟨b13, 0, none⟩ (.slice xa N xc)).setCell ⟨b15, 0, none⟩ (.int .i64 ((pre.length : Int) + 1))) := by
  obtain ⟨⟨l1, l2, l3, l4, l5⟩, ⟨h1, h2, h3, h4', h5'⟩, hn, hn2, hn3⟩ := ho
  have hpo := h.pb.o
  have hlen : (pre ++ [(x1, Value.slice xa N xc)]).length = pre.length + 1 := by simp
  obtain ⟨oa, oc, q1, q2, q3⟩ := h.out
  have hkW5 : KeptC w.heap.size (fun k => k = b16 ∨ k = zb) W W5 := (h4.weaken (by omega) (fun k e => .inl e)).trans (h5.weaken (Nat.le_refl _) (fun k e => .inr e))
  have n13_15 : b13 ≠ b15 := boxed_ne q1 h.n (by decide)
  have n13_16 : b13 ≠ b16 := boxed_ne q1 h.f (by decide)
  have nz13 : zb ≠ b13 := nr_ne q1 (by decide) h.srow
  have n14_13 : b14 ≠ b13 := boxed_ne h.s q1 (by decide)
  have n14_15 : b14 ≠ b15 := boxed_ne h.s h.n (by decide)
  have n14_16 : b14 ≠ b16 := boxed_ne h.s h.f (by decide)
  have nz14 : zb ≠ b14 := nr_ne h.s (by decide) h.srow
  have h13 : Boxed W5 b13 26 (.slice oa N oc) := boxed_keptC q1 hkW5 (by omega)
  have h15 : Boxed W5 b15 3 (.int .i64 pre.length) := boxed_keptC h.n hkW5 (by omega)
  have h16 : Boxed W5 b16 3 (.int .i64 S) := boxed_keptC hb16 h5 (by omega)
  have hk : KeptC w.heap.size (fun k => k = b13 ∨ k = b15 ∨ k = b16 ∨ k = zb) W ((W5.setCell ⟨b13, 0, none⟩ (.slice xa N xc)).setCell ⟨b15, 0, none⟩ (.int .i64 ((pre.length : Int) + 1))) :=
    (hkW5.weaken (Nat.le_refl _) (fun k e => .inr (.inr e))).trans (((KeptC.setAt W5 b13 0 _).weaken (by omega) (fun k e => .inl e)).trans ((KeptC.setAt _ b15 0 _).weaken (by omega) (fun k e => .inr (.inl e))))
  refine ⟨hk, h.pb.keptC hk (fun k e => by omega), ⟨xa, xc, ((h13.set _).other n13_15 _), ?_, ?_⟩, boxed_keptC h.s hk (by omega), ?_, ?_, ?_, ?_, ?_, h.bel.trans hk.low⟩
  · rw [hlen]
    exact owns_base (hk.row hr2 (fun k e hp => by have := own_ge hr2 k e; omega)) (by omega)
  · exact offP_own hr2 (fun k e hp => by omega)
  · rw [hlen]; exact owns_other (owns_other hz nz13 0 _) (by omega) 0 _
  · rw [hlen]
    have := (h15.other n13_15.symm (.slice xa N xc)).set (.int .i64 ((pre.length : Int) + 1))
    exact this
  · rw [hlen, ← hS]; exact (h16.other n13_16.symm _).other hn.symm _
  · rw [hlen]; exact goesN_snoc h.goes hne
  · rw [hlen, ← hS]; exact hle
theorem PI.stop {g : G} {q : Int} {N : Nat} {ds : List Int} {w : World} {bg bk r8 r9 r10 r11 b13 b14 b15 b16 zb Dx : Nat} {gc : Array Value} {pre : List (Value × Value)} {W : World} (h : PI g q N ds w bg bk r8 r9 r10 r11 b13 b14 b15 b16 zb Dx gc pre W) (ho : PO r11 b13 b14 b15 b16 zb Dx)
    (hne : rdyN g q N (rndTo g q N (s0Of ds) pre.length).L ≠ []) (x : Value × Value) {S : Int} (hS : S = sumTo (rndTo g q N (s0Of ds) (pre.length + 1)).T N) (hgt : (maxF : Int) < S) :
    PX g q N ds w bg bk r8 r9 r10 r11 b13 b14 b15 b16 zb Dx gc (pre ++ [x]) (((((W.setCell ⟨b16, 0, none⟩ (.int .i64 S)).setCell ⟨r8, 0, none⟩ (.slice none 0 0)).setCell ⟨r9, 0, none⟩ (.slice none 0 0)).setCell ⟨r10, 0, none⟩ (.int .i64 0)).setCell ⟨r11, 0, none⟩ (.int .i64 12)) := by
  obtain ⟨⟨l1, l2, l3, l4, l5⟩, ⟨h1, h2, h3, h4', h5'⟩, hn, hn2, hn3⟩ := ho
  have hpo := h.pb.o
  have hlen : (pre ++ [x]).length = pre.length + 1 := by simp
  have k1 := (KeptC.setAt W b16 0 (.int .i64 S)).weaken (n' := w.heap.size) (p' := fun k => k = b16) (by omega) (fun k e => e)
  have p1 := h.pb.keptC k1 (fun k e => by omega)
  have hk : KeptC w.heap.size (fun k => k = b16 ∨ k = r8 ∨ k = r9 ∨ k = r10 ∨ k = r11) W (((((W.setCell ⟨b16, 0, none⟩ (.int .i64 S)).setCell ⟨r8, 0, none⟩ (.slice none 0 0)).setCell ⟨r9, 0, none⟩ (.slice none 0 0)).setCell ⟨r10, 0, none⟩ (.int .i64 0)).setCell ⟨r11, 0, none⟩ (.int .i64 12)) :=
    (k1.weaken (Nat.le_refl _) (fun k e => .inl e)).trans (((KeptC.setAt _ r8 0 _).weaken (by omega) (fun k e => .inr (.inl e))).trans (((KeptC.setAt _ r9 0 _).weaken (by omega) (fun k e => .inr (.inr (.inl e)))).trans (((KeptC.setAt _ r10 0 _).weaken (by omega) (fun k e => .inr (.inr (.inr (.inl e))))).trans ((KeptC.setAt _ r11 0 _).weaken (by omega) (fun k e => .inr (.inr (.inr (.inr e))))))))
  have n1 : r9 ≠ r8 := by omega
  have n2 : r8 ≠ r9 := by omega
  have n3 : r8 ≠ r10 := by omega
  have n4 : r8 ≠ r11 := by omega
  have n5 : r9 ≠ r10 := by omega
  have n6 : r9 ≠ r11 := by omega
  have n7 : r10 ≠ r11 := by omega
  refine ⟨⟨hk.blk h.pb.g (by omega), boxed_keptC h.pb.k hk (by omega), (((p1.b8.set _).other n2 _).other n3 _).other n4 _, (((p1.b9.other n1 _).set _).other n5 _).other n6 _, (((p1.b10.other n3.symm _).other n5.symm _).set _).other n7 _, (((p1.b11.other n4.symm _).other n6.symm _).other n7.symm _).set _, h.pb.o⟩, ?_, ?_, h.bel.trans hk.low⟩
  · rw [hlen]; exact goesN_snoc h.goes hne
  · rw [hlen, ← hS]; exact hgt

section
variable {W : World} {n0 bg bk r8 r9 r10 r11 : Nat} {gc : Array Value} {v8 v9 v10 v11 : Value}
theorem PB.setsK (h : PB W n0 bg bk r8 r9 r10 r11 gc v8 v9 v10 v11) (u8 u9 u10 u11 : Value) :
    KeptC n0 (fun k => k = r8 ∨ k = r9 ∨ k = r10 ∨ k = r11) W ((((W.setCell ⟨r8, 0, none⟩ u8).setCell ⟨r9, 0, none⟩ u9).setCell ⟨r10, 0, none⟩ u10).setCell ⟨r11, 0, none⟩ u11) := by
  have hpo := h.o
  exact ((KeptC.setAt _ r8 0 _).weaken (by omega) (fun k e => .inl e)).trans (((KeptC.setAt _ r9 0 _).weaken (by omega) (fun k e => .inr (.inl e))).trans (((KeptC.setAt _ r10 0 _).weaken (by omega) (fun k e => .inr (.inr (.inl e)))).trans ((KeptC.setAt _ r11 0 _).weaken (by omega) (fun k e => .inr (.inr (.inr e))))))
theorem PB.setsB (h : PB W n0 bg bk r8 r9 r10 r11 gc v8 v9 v10 v11) (u8 u9 u10 u11 : Value) : Below n0 W ((((W.setCell ⟨r8, 0, none⟩ u8).setCell ⟨r9, 0, none⟩ u9).setCell ⟨r10, 0, none⟩ u10).setCell ⟨r11, 0, none⟩ u11) := (h.setsK u8 u9 u10 u11).low
theorem PB.sets (h : PB W n0 bg bk r8 r9 r10 r11 gc v8 v9 v10 v11) (u8 u9 u10 u11 : Value) : PB ((((W.setCell ⟨r8, 0, none⟩ u8).setCell ⟨r9, 0, none⟩ u9).setCell ⟨r10, 0, none⟩ u10).setCell ⟨r11, 0, none⟩ u11) n0 bg bk r8 r9 r10 r11 gc u8 u9 u10 u11 := by
  have hk := h.setsK u8 u9 u10 u11
  have hpo := h.o
  have n1 : r9 ≠ r8 := by omega
  have n2 : r8 ≠ r9 := by omega
  have n3 : r8 ≠ r10 := by omega
  have n4 : r8 ≠ r11 := by omega
  have n5 : r9 ≠ r10 := by omega
  have n6 : r9 ≠ r11 := by omega
  have n7 : r10 ≠ r11 := by omega
  exact ⟨hk.blk h.g (by omega), boxed_keptC h.k hk (by omega), (((h.b8.set _).other n2 _).other n3 _).other n4 _, (((h.b9.other n1 _).set _).other n5 _).other n6 _, (((h.b10.other n3.symm _).other n5.symm _).set _).other n7 _, (((h.b11.other n4.symm _).other n6.symm _).other n7.symm _).set _, h.o⟩
theorem sets_heap (h : PB W n0 bg bk r8 r9 r10 r11 gc v8 v9 v10 v11) {D : Nat} {o : Obj} (hD : W.heap[D]? = some o) (ho : o.isCells = false) {u8 u9 u10 u11 : Value} :
    ((((W.setCell ⟨r8, 0, none⟩ u8).setCell ⟨r9, 0, none⟩ u9).setCell ⟨r10, 0, none⟩ u10).setCell ⟨r11, 0, none⟩ u11).heap[D]? = some o :=
  (KeepsOthers.setCell _ _ _).same _ _ ((KeepsOthers.setCell _ _ _).same _ _ ((KeepsOthers.setCell _ _ _).same _ _ ((KeepsOthers.setCell _ _ _).same _ _ hD ho) ho) ho) ho
end

end Go.Proofs.YtbjoblkigbphhaaGreat

namespace Go.Proofs.YtbjoblkigbphhaaGreat
set_option linter.unusedSimpArgs false
set_option linter.unusedVariables false
open Go.RowKit Go.Shelf

theorem load_dv {w : World} {b : Nat} {v : Value} (h : Boxed w b 26 v) : (loadVar 26 ⟨b, 0, none⟩).run Tryz.prog w = .ok v w := by
  have hc := h.cell
  have h1 : Tryz.prog.underlying 26 = some (.slice 3) := by kernel_rfl
  simp [loadVar, h1, hc, go_sem]
theorem load_sc {w : World} {b : Nat} {v : Value} (h : Boxed w b 27 v) : (loadVar 27 ⟨b, 0, none⟩).run Tryz.prog w = .ok v w := by
  have hc := h.cell
  have h1 : Tryz.prog.underlying 27 = some (.slice 3) := by kernel_rfl
  simp [loadVar, h1, hc, go_sem]
theorem load_in {w : World} {b : Nat} {v : Value} (h : Boxed w b 3 v) : (loadVar 3 ⟨b, 0, none⟩).run Tryz.prog w = .ok v w := by
  have hc := h.cell
  have h1 : Tryz.prog.underlying 3 = some (.int .i64) := by kernel_rfl
  simp [loadVar, h1, hc, go_sem]
theorem load_er {w : World} {b : Nat} {v : Value} (h : Boxed w b 34 v) : (loadVar 34 ⟨b, 0, none⟩).run Tryz.prog w = .ok v w := by
  have hc := h.cell
  have h1 : Tryz.prog.underlying 34 = some (.int .i64) := by kernel_rfl
  simp [loadVar, h1, hc, go_sem]
theorem results_cell4 {P : Program} {fn : Func} {k1 k2 k3 k4 : Nat} {t1 t2 t3 t4 : TypeId} (h : fn.results = #[.cell k1 t1, .cell k2 t2, .cell k3 t3, .cell k4 t4]) {tmps : Array Value} {b1 b2 b3 b4 : Nat} {v1 v2 v3 v4 : Value} {w : World}
    (h1 : tmps[k1]?.getD undef = .pointer (some ⟨b1, 0, none⟩)) (h2 : tmps[k2]?.getD undef = .pointer (some ⟨b2, 0, none⟩)) (h3 : tmps[k3]?.getD undef = .pointer (some ⟨b3, 0, none⟩)) (h4 : tmps[k4]?.getD undef = .pointer (some ⟨b4, 0, none⟩))
    (l1 : (loadVar t1 ⟨b1, 0, none⟩).run P w = .ok v1 w) (l2 : (loadVar t2 ⟨b2, 0, none⟩).run P w = .ok v2 w) (l3 : (loadVar t3 ⟨b3, 0, none⟩).run P w = .ok v3 w) (l4 : (loadVar t4 ⟨b4, 0, none⟩).run P w = .ok v4 w) :
    (results fn tmps).run P w = .ok (.tuple #[v1, v2, v3, v4]) w := by
  simp [results, h, h1, h2, h3, h4, asAddr, l1, l2, l3, l4, Sem.run_bind, Result.andThen]
theorem results_pb {W : World} {n0 bg bk r8 r9 r10 r11 : Nat} {gc : Array Value} {v8 v9 v10 v11 : Value} (h : PB W n0 bg bk r8 r9 r10 r11 gc v8 v9 v10 v11) {tmps : Array Value}
    (h1 : tmps[8]?.getD undef = .pointer (some ⟨r8, 0, none⟩)) (h2 : tmps[9]?.getD undef = .pointer (some ⟨r9, 0, none⟩)) (h3 : tmps[10]?.getD undef = .pointer (some ⟨r10, 0, none⟩)) (h4 : tmps[11]?.getD undef = .pointer (some ⟨r11, 0, none⟩)) :
    (results Tryz.f38 tmps).run Tryz.prog W = .ok (.tuple #[v8, v9, v10, v11]) W :=
  results_cell4 rfl h1 h2 h3 h4 (load_dv h.b8) (load_sc h.b9) (load_in h.b10) (load_er h.b11)

set_option maxHeartbeats 1000000 in
theorem q_large (ds : List Int) (dv : Value) (w : World) (hd : IntsR w dv ds) :
    Calls Tryz.prog 65 #[dv] w fun e w' => e = .returned (.int .i64 (if dErr ds ds.length = 0 then 0 else 11)) ∧ w = w' := by
  have hc := hid (p_chips ds dv ds.length w hd)
  obtain ⟨a, cap, rfl, _⟩ := hd
  have hz0 : Hid (dErr ds ds.length = dErr ds ds.length) := rfl
  generalize dErr ds ds.length = z at *
  by_cases hz : z = 0
  · subst hz
    go_enter Tryz.func65, Tryz.ntmps65
    go_wp2_with fail
    refine hc.out.mono ?_
    rintro e w1 ⟨rfl, rfl⟩
    dsimp only
    go_wp2_with fail
    go_ret
    exact ⟨rfl, rfl⟩
  · rw [if_neg hz]
    have hz1 : (z == 0) = false := by simpa using hz
    have hz2 : (z != 0) = true := by simpa using hz
    go_enter Tryz.func65, Tryz.ntmps65
    go_wp2_with fail
    refine hc.out.mono ?_
    rintro e w1 ⟨rfl, rfl⟩
    dsimp only
    go_wp2_with fail
    go_ret
    exact ⟨rfl, rfl⟩

theorem large_vec {N : Nat} (L : Nat → Int) (h1 : 0 < N) (h2 : N ≤ 12) : (if dErr (vecOf N L) (vecOf N L).length = 0 then (0 : Int) else 11) = if bddB N L then 0 else 11 := by
  have hl := vecOf_len N L
  have h3 : dErr (vecOf N L) (vecOf N L).length = if (vecOf N L).all inB then 0 else 2 := by
    unfold dErr
    rw [hl]
    rw [if_neg (show ¬ ((N : Int) < 1 ∨ 12 < (N : Int)) by omega), if_neg (show ¬ ((N : Int) ≠ (N : Int)) by simp)]
  rw [h3]
  unfold bddB
  cases (vecOf N L).all inB <;> rfl

end Go.Proofs.YtbjoblkigbphhaaGreat
