/-
  slices.SortFunc at edges, with graph's closure.
-/
import Derived.Shelf.SlSortCmp.NoneTotal
import Derived.Test.YtemmepgfngkgmaaGreatDoorN31
namespace Go.Proofs.YtemmepgfngkgmaaGreatDoor
open Go.RowKit Go.Sort
set_option linter.unusedVariables false
set_option linter.unusedSimpArgs false

def renS : Go.Shelf.Ren := ⟨fun | 6 => 125 | 14 => 151 | 15 => 152 | 20 => 174 | 21 => 175 | 22 => 176 | 23 => 177 | 24 => 178 | 25 => 179 | 26 => 180 | 27 => 181 | 28 => 182 | 29 => 183 | 46 => 197 | 47 => 198 | 48 => 199 | 49 => 200 | 50 => 201 | 57 => 214 | n => n, fun | 0 => 0 | 3 => 3 | 4 => 4 | 5 => 5 | 9 => 9 | 22 => 22 | 24 => 82 | 25 => 193 | 39 => 195 | 45 => 238 | 46 => 239 | 50 => 165 | 53 => 245 | 55 => 227 | 66 => 256 | 70 => 260 | 76 => 274 | 77 => 180 | n => n, fun | n => n⟩
theorem layrenS : Go.Proofs.SlLaysF0.n6 Tryz.prog renS :=
  { mixed := by kernel_rfl,
    f6 := ⟨ "slices.SortFunc[[]sandpile/api.Edge,sandpile/api.Edge]", by kernel_rfl, by kernel_rfl⟩,
    f14 := ⟨ "slices.pdqsortCmpFunc[sandpile/api.Edge]", by kernel_rfl, by kernel_rfl⟩,
    f15 := by kernel_rfl,
    f20 := ⟨ "slices.insertionSortCmpFunc[sandpile/api.Edge]", by kernel_rfl, by kernel_rfl⟩,
    f21 := ⟨ "slices.heapSortCmpFunc[sandpile/api.Edge]", by kernel_rfl, by kernel_rfl⟩,
    f22 := ⟨ "slices.breakPatternsCmpFunc[sandpile/api.Edge]", by kernel_rfl, by kernel_rfl⟩,
    f23 := ⟨ "slices.choosePivotCmpFunc[sandpile/api.Edge]", by kernel_rfl, by kernel_rfl⟩,
    f24 := ⟨ "slices.reverseRangeCmpFunc[sandpile/api.Edge]", by kernel_rfl, by kernel_rfl⟩,
    f25 := ⟨ "slices.partialInsertionSortCmpFunc[sandpile/api.Edge]", by kernel_rfl, by kernel_rfl⟩,
    f26 := ⟨ "slices.partitionEqualCmpFunc[sandpile/api.Edge]", by kernel_rfl, by kernel_rfl⟩,
    f27 := ⟨ "slices.partitionCmpFunc[sandpile/api.Edge]", by kernel_rfl, by kernel_rfl⟩,
    f28 := by kernel_rfl,
    f29 := by kernel_rfl,
    f46 := ⟨ "slices.siftDownCmpFunc[sandpile/api.Edge]", by kernel_rfl, by kernel_rfl⟩,
    f47 := by kernel_rfl,
    f48 := by kernel_rfl,
    f49 := ⟨ "slices.medianAdjacentCmpFunc[sandpile/api.Edge]", by kernel_rfl, by kernel_rfl⟩,
    f50 := ⟨ "slices.medianCmpFunc[sandpile/api.Edge]", by kernel_rfl, by kernel_rfl⟩,
    f57 := ⟨ "slices.order2CmpFunc[sandpile/api.Edge]", by kernel_rfl, by kernel_rfl⟩,
    t0 := by kernel_rfl,
    a0 := fun _ => by kernel_rfl,
    z0 := fun _ => by kernel_rfl,
    v0 := fun _ => by kernel_rfl,
    t3 := by kernel_rfl,
    a3 := fun _ => by kernel_rfl,
    z3 := fun _ => by kernel_rfl,
    v3 := fun _ => by kernel_rfl,
    t4 := by kernel_rfl,
    a4 := fun _ => by kernel_rfl,
    z4 := fun _ => by kernel_rfl,
    v4 := fun _ => by kernel_rfl,
    t5 := by kernel_rfl,
    a5 := fun _ => by kernel_rfl,
    z5 := fun _ => by kernel_rfl,
    v5 := fun _ => by kernel_rfl,
    t9 := by kernel_rfl,
    a9 := fun _ => by kernel_rfl,
    z9 := fun _ => by kernel_rfl,
    v9 := fun _ => by kernel_rfl,
    t22 := by kernel_rfl,
    a22 := fun _ => by kernel_rfl,
    z22 := fun _ => by kernel_rfl,
    v22 := fun _ => by kernel_rfl,
    t25 := by kernel_rfl,
    a25 := fun _ => by kernel_rfl,
    z25 := fun _ => by kernel_rfl,
    v25 := fun _ => by kernel_rfl,
    t39 := by kernel_rfl,
    a39 := fun _ => by kernel_rfl,
    z39 := fun _ => by kernel_rfl,
    v39 := fun _ => by kernel_rfl,
    t45 := by kernel_rfl,
    a45 := fun _ => by kernel_rfl,
    z45 := fun _ => by kernel_rfl,
    v45 := fun _ => by kernel_rfl,
    t46 := by kernel_rfl,
    a46 := fun _ => by kernel_rfl,
    z46 := fun _ => by kernel_rfl,
    v46 := fun _ => by kernel_rfl,
    t50 := by kernel_rfl,
    a50 := fun _ => by kernel_rfl,
    z50 := fun _ => by kernel_rfl,
    v50 := fun _ => by kernel_rfl,
    t53 := by kernel_rfl,
    a53 := fun _ => by kernel_rfl,
    z53 := fun _ => by kernel_rfl,
    v53 := fun _ => by kernel_rfl,
    t55 := by kernel_rfl,
    a55 := fun _ => by kernel_rfl,
    z55 := fun _ => by kernel_rfl,
    v55 := fun _ => by kernel_rfl,
    t66 := by kernel_rfl,
    a66 := fun _ => by kernel_rfl,
    z66 := fun _ => by kernel_rfl,
    v66 := fun _ => by kernel_rfl,
    t70 := by kernel_rfl,
    a70 := fun _ => by kernel_rfl,
    z70 := fun _ => by kernel_rfl,
    v70 := fun _ => by kernel_rfl,
    t76 := by kernel_rfl,
    a76 := fun _ => by kernel_rfl,
    z76 := fun _ => by kernel_rfl,
    v76 := fun _ => by kernel_rfl,
    t77 := by kernel_rfl,
    a77 := fun _ => by kernel_rfl,
    z77 := fun _ => by kernel_rfl,
    v77 := fun _ => by kernel_rfl }
set_option maxRecDepth 100000 in
theorem p_compareG (a b c d : Int) (w : World) : Calls Tryz.prog 93 #[.agg #[.int .i64 a, .int .i64 b], .agg #[.int .i64 c, .int .i64 d]] w
    fun e w' => e = .returned (.int .i64 (cmpP a b c d)) ∧ w' = (((w.alloc (.cells #[.int .i64 a, .int .i64 b] 156)).alloc (.cells #[.int .i64 c, .int .i64 d] 156)).alloc (.cells #[.int .i64 (cmpI a c), .int .i64 (cmpI b d)] 3)).drew := by
  have HZ := hid (show cmpP a b c d = if cmpI a c ≠ 0 then cmpI a c else cmpI b d from rfl)
  go_enter Tryz.func93, Tryz.ntmps93
  go_upto_region 1 with fail
  obtain ⟨W0, hW0⟩ : ∃ W : World, W = ((w.alloc (.cells #[.int .i64 a, .int .i64 b] 156)).alloc (.cells #[.int .i64 c, .int .i64 d] 156)) := ⟨_, rfl⟩
  rw [← hW0]
  have e1 : W0.cell? ⟨w.heap.size, 0, none⟩ = some (.int .i64 a) := by rw [hW0]; simp
  have e2 : W0.cell? ⟨w.heap.size, 1, none⟩ = some (.int .i64 b) := by rw [hW0]; simp
  have e3 : W0.cell? ⟨w.heap.size + 1, 0, none⟩ = some (.int .i64 c) := by rw [hW0]; simp
  have e4 : W0.cell? ⟨w.heap.size + 1, 1, none⟩ = some (.int .i64 d) := by rw [hW0]; simp
  have hBw : Below w.heap.size w W0 := by rw [hW0]; go_grown
  have hs0 : w.heap.size ≤ W0.heap.size := hBw.size
  have HW0 := hid hW0
  clear hW0
  let S : World → Prop := fun w' => w'.cell? ⟨w.heap.size, 0, none⟩ = some (.int .i64 a) ∧ w'.cell? ⟨w.heap.size, 1, none⟩ = some (.int .i64 b) ∧ w'.cell? ⟨w.heap.size + 1, 0, none⟩ = some (.int .i64 c) ∧ w'.cell? ⟨w.heap.size + 1, 1, none⟩ = some (.int .i64 d)
  (refine wp_region_text 10 [0,1,2,3,5,6,7,8,4,9] S (by kernel_rfl) (by kernel_rfl) (by intro _ _ d _ _ h; cases d <;> exact h) ?hS ?_; rotate_left; simp only [List.map_cons, List.map_nil, List.getD_cons_zero, List.getD_cons_succ, List.drop_succ_cons, List.drop_zero])
  case hS => exact ⟨e1, e2, e3, e4⟩
  (repeat ((refine' wpSeq_take rfl _ (by rfl) ?_ ?_; rotate_left; focus (intro w' hS; (try dsimp only at hS); obtain ⟨s1, s2, s3, s4⟩ := hS; go_simp; (first | done | with_reducible rfl)); (try simp only [Act.put, List.setIfInBounds_toArray, List.set_cons_zero, List.set_cons_succ])); (try simp only [Act.put, List.setIfInBounds_toArray, List.set_cons_zero, List.set_cons_succ])))
  (refine wpSeq_call rfl (by rfl) (fun K hK => ?_); go_simp; refine (c_Compare _ _ _).mono ?_; rintro e w1 ⟨rfl, rfl⟩; refine hK _ _ (⟨e1, e2, e3, e4⟩) ?_; clear hK K; (try simp only [Act.put, List.setIfInBounds_toArray, List.set_cons_zero, List.set_cons_succ]))
  (refine wpSeq_call rfl (by rfl) (fun K hK => ?_); go_simp; refine (c_Compare _ _ _).mono ?_; rintro e w1 ⟨rfl, rfl⟩; refine hK _ _ (⟨e1, e2, e3, e4⟩) ?_; clear hK K; (try simp only [Act.put, List.setIfInBounds_toArray, List.set_cons_zero, List.set_cons_succ]))
  refine wpSeq_nil ?_
  clear e1 e2 e3 e4 S
  have H1 : W0.heap.size < (W0.alloc (.cells #[.int .i64 (cmpI a c), .int .i64 (cmpI b d)] 3)).drew.heap.size := by simp
  have H2 : (W0.alloc (.cells #[.int .i64 (cmpI a c), .int .i64 (cmpI b d)] 3)).drew.cell? ⟨W0.heap.size, 0, none⟩ = some (.int .i64 (cmpI a c)) := by simp
  have H3 : (W0.alloc (.cells #[.int .i64 (cmpI a c), .int .i64 (cmpI b d)] 3)).drew.cell? ⟨W0.heap.size, 1, none⟩ = some (.int .i64 (cmpI b d)) := by simp
  have hor := hid (c_Or2 (cmpI a c) (cmpI b d) W0.heap.size 2 _ H1 H2 H3 (Nat.le_refl _))
  rw [← HZ.out] at hor
  clear H1 H2 H3
  go_wp2_with (go_at_call 119; refine hor.out.mono ?_; rintro e w1 ⟨rfl, rfl⟩)
  go_ret
  refine ⟨rfl, ?_⟩
  rw [← HW0.out]
theorem p_closE (x y : E) (w : World) : Calls Tryz.prog 126 #[.agg x.cells.toArray, .agg y.cells.toArray] w
    fun e w' => e = .returned (.int .i64 (cmpP x.a x.b y.a y.b)) ∧ ∃ q os', w' = grow (w.drewN q) os' := by
  obtain ⟨xa, xb, xm⟩ := x
  obtain ⟨ya, yb, ym⟩ := y
  show Calls Tryz.prog 126 #[.agg #[.int .i64 xa, .int .i64 xb, .int .i64 xm], .agg #[.int .i64 ya, .int .i64 yb, .int .i64 ym]] w _
  have hc := hid (fun w => p_compareG xa xb ya yb w)
  dsimp only
  generalize cmpP xa xb ya yb = r at *
  go_enter Tryz.func126, Tryz.ntmps126
  go_wp2_with fail
  refine (hc.out _).mono ?_
  rintro e w1 ⟨rfl, rfl⟩
  dsimp only
  go_wp2_with fail
  go_ret
  exact ⟨rfl, 1, _, by rw [alloc_eq_grow, alloc_eq_grow, alloc_eq_grow, alloc_eq_grow, alloc_eq_grow, grow_grow, grow_grow, grow_grow, grow_grow, drew_grow]; rfl⟩
theorem ltOf_E (x y : E) : ltOf (fun x y : E => cmpP x.a x.b y.a y.b) x y = ltE x y.a y.b := by
  unfold ltOf ltE
  have h := cmpP_ge x.a x.b y.a y.b
  by_cases hc : cmpP x.a x.b y.a y.b < 0
  · have := h.1 hc
    rw [decide_eq_true hc]
    simp
    omega
  · rw [decide_eq_false hc]
    have : ¬ (x.a < y.a ∨ x.a = y.a ∧ x.b < y.b) := fun hh => hc (h.2 hh)
    simp
    omega
theorem swo_E : SWO (ltOf fun x y : E => cmpP x.a x.b y.a y.b) where
  irrefl x := by rw [ltOf_E]; unfold ltE; simp
  trans x y z h1 h2 := by rw [ltOf_E] at *; unfold ltE at *; simp at *; omega
  ntrans x y z h1 h2 := by rw [ltOf_E] at *; unfold ltE at *; simp at *; omega
theorem isAgg_edge : ∀ w, (isAgg 82).run Tryz.prog w = .ok true w := fun _ => by kernel_rfl
theorem sizeOf_edge : ∀ w, (Go.sizeOf 82).run Tryz.prog w = .ok 3 w := fun _ => by kernel_rfl
theorem enters_clos : ∀ args w, (callFunc 126 args).run Tryz.prog w = .ok (.enter 126 args) w := enters_of Tryz.func126 (by kernel_rfl) rfl
theorem flatK_E (es : List E) : (flatK E.cells 3 es.toArray).toList = es.flatMap E.cells := by
  have hl : (es.flatMap E.cells).length = es.length * 3 := by
    induction es with
    | nil => rfl
    | cons x es ih => rw [List.flatMap_cons, List.length_append, List.length_cons, ih]; simp [E.cells]; omega
  apply List.ext_getElem?
  intro j
  by_cases hj : j < es.length * 3
  · have h1 := flat_get es (j / 3) (by omega) (j % 3) (by omega)
    have e : j / 3 * 3 + j % 3 = j := by omega
    rw [e] at h1
    have h2 := get_flatK E.cells 3 es.toArray j (by simpa using hj)
    have hs : j < (flatK E.cells 3 es.toArray).size := by rw [size_flatK]; simpa using hj
    rw [Array.getElem?_toList, Array.getElem?_eq_getElem hs]
    rw [getElem!_pos _ j hs] at h2
    rw [h2, h1]
    have h3 : j / 3 < es.length := by omega
    have e2 : es.toArray[j / 3]! = es[j / 3]?.getD default := by
      rw [getElem!_pos _ _ (by simpa using h3), List.getElem?_eq_getElem h3]
      simp
    rw [e2]
    generalize es[j / 3]?.getD default = x
    have hm : j % 3 = 0 ∨ j % 3 = 1 ∨ j % 3 = 2 := by omega
    rcases hm with hm | hm | hm <;> rw [hm] <;> rfl
  · rw [List.getElem?_eq_none (by rw [Array.length_toList, size_flatK]; simp; omega), List.getElem?_eq_none (by rw [hl]; omega)]
theorem heap_sortedE {w : World} {g n : Nat} {os : Array Obj} {cur : Array Value} {e : TypeId} {fr : Nat × Nat} (F : Array Value) (hb : w.heap[g]? = some (.cells cur e fr)) :
    (grow (putRow id (Go.Sort.ahead w n) g 0 F) os).heap[g]? = some (.cells (putCells id 0 F cur) e fr) := by
  have hg : g < w.heap.size := (Array.getElem?_eq_some_iff.1 hb).1
  rw [Go.Sort.heap_grow_old _ _ (by simpa using hg)]
  simp [putRow, mapBlock, Go.Sort.ahead, Array.getElem?_modify, hb, onCells]
theorem grownBy_sortedE {w : World} {g n : Nat} {os : Array Obj} (F : Array Value) : w.grownBy (grow (putRow id (Go.Sort.ahead w n) g 0 F) os) (some g) := by
  refine ⟨rfl, rfl, rfl, by simp, fun k hk hne => ?_⟩
  rw [Go.Sort.heap_grow_old _ _ (by simpa using hk)]
  have : g ≠ k := fun e => hne (by rw [e])
  simp [putRow, mapBlock, Go.Sort.ahead, Array.getElem?_modify, this]
theorem take_putCellsE (cur F : Array Value) (h : F.size ≤ cur.size) : (putCells id 0 F cur).toList.take F.size = F.toList := by
  apply List.ext_getElem?
  intro j
  by_cases hj : j < F.size
  · rw [List.getElem?_take_of_lt hj, Array.getElem?_toList, Array.getElem?_toList]
    simp [putCells, hj, show j < cur.size by omega]
  · rw [List.getElem?_take_eq_none (by omega), List.getElem?_eq_none (by simp; omega)]

/-- Edges, sorted by their ends. -/
theorem c_SortE {w : World} {base g cap : Nat} {es : List E} (ho : w.ownsRow base 82 3 (.slice (some ⟨g, 0, none⟩) es.length cap) es.length (es.flatMap E.cells)) (hl : es.length ≤ 1000000) :
    Calls Tryz.prog 125 #[.slice (some ⟨g, 0, none⟩) es.length cap, .func (.func 126) #[] #[]] w fun e w' =>
      e = .returned (.tuple #[]) ∧ ∃ es' : List E, es'.Perm es ∧ es'.Pairwise (fun x y => ltE y x.a x.b = false) ∧ w'.ownsRow base 82 3 (.slice (some ⟨g, 0, none⟩) es.length cap) es.length (es'.flatMap E.cells) ∧ w.grownBy w' (some g) := by
  have hfl := flatK_E es
  rcases ho.2 with ⟨h, _⟩ | ⟨g', cap', cur, h1, h2, h3, h4, h5, h6, h7⟩
  · cases h
  · injection h1 with h1 _ h1c
    simp at h1
    subst h1 h1c
    have hgl : g < w.heap.size := (Array.getElem?_eq_some_iff.1 h3).1
    have hlen : (es.flatMap E.cells).length = es.length * 3 := by rw [← hfl, Array.length_toList, size_flatK]; simp
    have hH : HoldsK E.cells 3 w g 0 es.toArray := by
      intro j hj
      rw [size_flatK] at hj
      have hj : j < es.length * 3 := by simpa using hj
      constructor
      · have e1 : (es.flatMap E.cells)[j]? = cur.toList[j]? := by rw [← h7, List.getElem?_take, if_pos hj]
        have hs : j < (flatK E.cells 3 es.toArray).size := by rw [size_flatK]; simpa using hj
        have e2 : (es.flatMap E.cells)[j]? = some ((flatK E.cells 3 es.toArray)[j]!) := by
          rw [← hfl, Array.getElem?_toList, Array.getElem?_eq_getElem hs, getElem!_pos _ j hs]
        rw [e1] at e2
        simp only [World.cell?, h3, Option.isSome_none, Bool.false_eq_true, if_false, Nat.zero_add]
        rw [← Array.getElem?_toList, e2]
        rfl
      · simp [World.frozen?, h3]
    have hcon := AnyQ.slices_SortFunc layrenS 3 isAgg_edge sizeOf_edge E.cells (fun _ => rfl) (fun x v hv => by simp [E.cells] at hv; rcases hv with rfl | rfl | rfl <;> rfl) (fun x y : E => cmpP x.a x.b y.a y.b) swo_E 126 #[] g 0 cap es.toArray w enters_clos (fun _ _ _ _ x y => p_closE x y _) hH hgl (by simp; omega)
    have hsz : es.toArray.size = es.length := by simp
    rw [hsz] at hcon
    refine Calls.mono hcon ?_
    rintro e w' ⟨rfl, d', n, os, hp, hs, rfl⟩
    obtain ⟨es', rfl⟩ : ∃ es' : List E, d' = es'.toArray := ⟨d'.toList, by simp⟩
    have hl' : es'.length = es.length := by have := hp.1; simpa using this
    have hperm : es'.Perm es := by
      have h := hp.2.2
      have e1 : (es'.toArray.extract 0 es.length).toList = es' := by simp [← hl']
      have e2 : (es.toArray.extract 0 es.length).toList = es := by simp
      rw [e1, e2] at h
      exact h
    refine ⟨rfl, es', hperm, ?_, ⟨?_, .inr ⟨g, cap, _, rfl, h2, heap_sortedE _ h3, h4, h5, ?_, ?_⟩⟩, grownBy_sortedE _⟩
    · rw [List.pairwise_iff_getElem]
      intro i j hi hj hij
      have h := hs i j (Nat.zero_le _) hij (by omega)
      rw [ltOf_E, getElem!_pos _ _ (by simpa using hj), getElem!_pos _ _ (by simpa using hi)] at h
      simpa using h
    · rw [← flatK_E, Array.length_toList, size_flatK]; simp [hl']
    · simp [putCells, h6]
    · have hf : (flatK E.cells 3 es'.toArray).size = es.length * 3 := by rw [size_flatK]; simp [hl']
      rw [← flatK_E, ← hf]
      exact take_putCellsE cur _ (by rw [hf, h6]; exact Nat.mul_le_mul_right _ h4)
theorem c_SortNone (w : World) (cap : Nat) (p : Option Addr) : Calls Tryz.prog 125 #[.slice p 0 cap, .func (.func 126) #[] #[]] w fun e w' => e = .returned (.tuple #[]) ∧ w' = w :=
  AnyF.slices_SortFunc_none layrenS p cap _ w

end Go.Proofs.YtemmepgfngkgmaaGreatDoor
