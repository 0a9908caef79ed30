/-
  From what an argument reads as to the shapes of this proof: graphs, slices of pairs, slices of integers.
-/
import Derived.Test.YtbjoblkigbphhaaGreatRows
import Derived.Test.YtbjoblkigbphhaaGreatSpec2
import Derived.ProofKit
import Derived.OpenShut
import Derived.ChangeOld
import Derived.Below
import Derived.Carry
import Derived.SizedLaws
import Derived.Lib.SmallJoins
import Derived.Deep.Slices
import Derived.Deep.SlicePairs
import Derived.Deep.Fields
import Derived.WalkKit
namespace Go.Proofs.YtbjoblkigbphhaaGreat
open Go.ChangeShapes Go.WideShapes Go.ChangeAt Go.RowKit Go.Deep Go.Joins
set_option linter.unusedVariables false

theorem law_own : ownKnob Tryz.prog.godebug = none := by kernel_rfl
theorem law_laidOut : laidOutB Tryz.prog = true := by kernel_rfl
theorem cells_Edge : Tryz.prog.cellsOf 96 = 3 := by kernel_rfl
theorem cells_Graph : Tryz.prog.cellsOf 24 = 2 := by kernel_rfl
theorem cells_int : Tryz.prog.cellsOf 3 = 1 := by kernel_rfl
theorem bytes_Edge : Tryz.prog.bytesOf 96 = 24 := by kernel_rfl
theorem bytes_int : Tryz.prog.bytesOf 3 = 8 := by kernel_rfl
theorem und_int : Tryz.prog.underlying 3 = some (.int .i64) := by kernel_rfl
theorem und_Edges : Tryz.prog.underlying 22 = some (.slice 96) := by kernel_rfl
theorem und_Div : Tryz.prog.underlying 26 = some (.slice 3) := by kernel_rfl
theorem und_Ints : Tryz.prog.underlying 25 = some (.slice 3) := by kernel_rfl
theorem und_bool : Tryz.prog.underlying 4 = some .bool := by kernel_rfl

theorem law_lt {w : World} {a : Addr} {v : Value} (h : w.cell? a = some v) : a.block < w.heap.size := by
  rcases Nat.lt_or_ge a.block w.heap.size with h' | h'
  · exact h'
  · simp [World.cell?, Array.getElem?_eq_none h'] at h

theorem cellsAt_of (w : World) (a : Addr) (n k : Nat) (xs : List Value) (hk : 0 < k) (hn : xs.length = n * k) (h : ∀ i, i < n → ∀ j, j < k → w.cell? (a.add (i * k + j)) = xs[i * k + j]?) : CellsAt w (some a) xs := by
  by_cases hx : xs = []
  · exact .inl hx
  have hpos : 0 < xs.length := List.length_pos_iff.2 hx
  have hn0 : 0 < n := by rcases Nat.eq_zero_or_pos n with h0 | h0 <;> simp_all
  have h00 := h 0 hn0 0 hk
  rw [show (0 * k + 0 : Nat) = 0 by omega, List.getElem?_eq_getElem hpos] at h00
  have hsp := World.cell?_spot h00
  have hlt := law_lt h00
  obtain ⟨b, off, spot⟩ := a
  simp [Addr.add] at hsp hlt
  subst hsp
  refine .inr ⟨b, off, rfl, hlt, fun i hi => ?_⟩
  have e1 : i / k * k + i % k = i := by rw [Nat.mul_comm]; exact Nat.div_add_mod i k
  have := h (i / k) (by rw [hn] at hi; exact Nat.div_lt_of_lt_mul (by rw [Nat.mul_comm]; exact hi)) (i % k) (Nat.mod_lt _ hk)
  rw [e1] at this
  rw [← this]
  congr 1
  unfold Addr.add; split <;> simp_all

section
variable {H : Type} {enc : TypeId × Value → H} {W : World} {base : Nat} {held : Bool}

theorem list3 {α : Type} {l : List α} (h : l.length = 3) : ∃ x y z, l = [x, y, z] := by
  match l, h with
  | [x, y, z], _ => exact ⟨x, y, z, rfl⟩
theorem list2 {α : Type} {l : List α} (h : l.length = 2) : ∃ x y, l = [x, y] := by
  match l, h with
  | [x, y], _ => exact ⟨x, y, rfl⟩

theorem struct_edge : ∃ f0 f1 f2 : Field, Tryz.prog.underlying 96 = some (.struct #[f0, f1, f2]) ∧ f0.type = 3 ∧ f1.type = 3 ∧ f2.type = 3 ∧ f0.offset = 0 ∧ f1.offset = 1 ∧ f2.offset = 2 :=
  ⟨_, _, _, Tryz.underlying96, rfl, rfl, rfl, rfl, rfl, rfl⟩

theorem struct_graph : ∃ f0 f1 : Field, Tryz.prog.underlying 24 = some (.struct #[f0, f1]) ∧ f0.type = 3 ∧ f1.type = 22 ∧ oneCellFields Tryz.prog #[f0, f1] = true :=
  ⟨_, _, Tryz.underlying24, rfl, rfl, by kernel_rfl⟩

set_option maxRecDepth 100000 in
theorem reads_edges {fuel : Nat} {v : Value} {y : DataW H × List MemPlace} (h : DataW.trod enc Tryz.prog W base (fun _ => true) held fuel 22 [v] = some y)
    (hs : (y.1.weights Tryz.prog 22).all (· ≤ reachBytes) = true) : ∃ es, EdgesR W v es := by
  rcases open_slice und_Edges h with ⟨hcs, rfl⟩ | ⟨a, len, cap, m, n, D, Pl, hcs, _, hl, hm, hmm, rfl, hx⟩
  · simp at hcs
    subst hcs
    exact ⟨[], none, 0, rfl, Nat.le_refl _, by omega, by decide, .inl rfl⟩
  · simp at hcs
    subst hcs
    simp only [if_true] at hmm
    subst hmm
    obtain ⟨f0, f1, f2, hu, t0, t1, t2, o0, o1, o2⟩ := struct_edge
    have each : ∀ i, i < m → ∃ x : E, ∀ j, j < 3 → W.cell? (a.add (i * 3 + j)) = x.cells[j]? := by
      intro i hi
      obtain ⟨cs', h1, h2⟩ := hx i hi
      rw [cells_Edge] at h1
      obtain ⟨_, hlen, hcell⟩ := World.cells?_some h1
      obtain ⟨xs, k, _, _, _, hxl, hf⟩ := DataW.trod_struct hu h2
      obtain ⟨y0, y1, y2, rfl⟩ := list3 hxl
      obtain ⟨v0, v1, v2, rfl⟩ := list3 hlen
      focus
        have g0 := hf 0 f0 rfl
        have g1 := hf 1 f1 rfl
        have g2 := hf 2 f2 rfl
        simp [o0, o1, o2, t0, t1, t2, cells_int] at g0 g1 g2
        obtain ⟨n0, e0, _⟩ := DataW.trod_int und_int g0
        obtain ⟨n1, e1, _⟩ := DataW.trod_int und_int g1
        obtain ⟨n2, e2, _⟩ := DataW.trod_int und_int g2
        simp at e0 e1 e2
        subst e0 e1 e2
        refine ⟨⟨n0, n1, n2⟩, fun j hj => ?_⟩
        rw [← add_add, hcell j hj]
        rfl
    obtain ⟨q, hq⟩ := choose_lt (α := E) each
    refine ⟨(List.range len).map q, some a, m, by simp, by simpa using hl, by unfold maxLen at hm; omega, ?_, ?_⟩
    · have hw : (len + (m - len)) * 24 ≤ reachBytes := by
        have := List.all_eq_true.1 hs ((len + (m - len)) * 24) (by simp [DataW.weights, bytes_Edge])
        simpa using this
      have := reachBytes_lt
      simp
      omega
    · refine cellsAt_of W a len 3 _ (by decide) ?_ fun i hi j hj => ?_
      · have : ∀ l : List Nat, ((l.map q).flatMap E.cells).length = l.length * 3 := by
          intro l; induction l with
          | nil => rfl
          | cons x l ih => simp only [List.map_cons, List.flatMap_cons, List.length_append, ih, List.length_cons]; simp [E.cells]; omega
        rw [this]; simp
      · rw [hq i (by omega) j hj, flat_get _ i (by simpa using hi) j hj]
        simp [hi]

set_option maxRecDepth 100000 in
theorem reads_ints {t : TypeId} (ht : Tryz.prog.underlying t = some (.slice 3)) {fuel : Nat} {v : Value} {y : DataW H × List MemPlace} (h : DataW.trod enc Tryz.prog W base (fun _ => true) held fuel t [v] = some y)
    (hs : (y.1.weights Tryz.prog t).all (· ≤ reachBytes) = true) : ∃ l, IntsR W v l := by
  rcases open_slice ht h with ⟨hcs, rfl⟩ | ⟨a, len, cap, m, n, D, Pl, hcs, _, hl, hm, hmm, rfl, hx⟩
  · simp at hcs
    subst hcs
    exact ⟨[], none, 0, rfl, Nat.le_refl _, by omega, by decide, .inl rfl⟩
  · simp at hcs
    subst hcs
    simp only [if_true] at hmm
    subst hmm
    have each : ∀ i, i < m → ∃ x : Int, W.cell? (a.add i) = some (.int .i64 x) := by
      intro i hi
      obtain ⟨cs', h1, h2⟩ := hx i hi
      rw [cells_int, Nat.mul_one] at h1
      obtain ⟨n0, e0, _⟩ := DataW.trod_int und_int h2
      subst e0
      obtain ⟨_, _, hcell⟩ := World.cells?_some h1
      have := hcell 0 (by omega)
      rw [add_add] at this
      exact ⟨n0, by simpa using this⟩
    obtain ⟨q, hq⟩ := choose_lt (α := Int) each
    refine ⟨(List.range len).map q, some a, m, by simp, by simpa using hl, by unfold maxLen at hm; omega, ?_, ?_⟩
    · have hw : (len + (m - len)) * 8 ≤ reachBytes := by
        have := List.all_eq_true.1 hs ((len + (m - len)) * 8) (by simp [DataW.weights, ht, bytes_int])
        simpa using this
      have := reachBytes_lt
      simp
      omega
    · refine cellsAt_of W a len 1 _ (by decide) (by simp) fun i hi j hj => ?_
      obtain rfl : j = 0 := by omega
      rw [Nat.mul_one, Nat.add_zero, hq i (by omega)]
      simp [hi]

set_option maxRecDepth 100000 in
/-- A graph that came in. -/
theorem reads_graph {r : Reach} {b0 : Nat} {v : Value} {d : DataW H} {p : List MemPlace} (hv : Value.okWide Tryz.prog W r b0 24 v) (h : DataW.Trod enc Tryz.prog W base (fun _ => true) held 24 v d p)
    (hs : (d.weights Tryz.prog 24).all (· ≤ reachBytes) = true) : ∃ g, GrR W v g := by
  obtain ⟨f0, f1, hu, t0, t1, hone⟩ := struct_graph
  obtain ⟨v0, v1, y0, y1, n, rfl, rfl, rfl, h0, h1⟩ := open_agg2 hu hone cells_Graph hv h
  rw [t0] at h0
  rw [t1] at h1
  obtain ⟨z, e0, _⟩ := DataW.trod_int und_int h0
  simp at e0
  subst e0
  have hs1 : (y1.1.weights Tryz.prog 22).all (· ≤ reachBytes) = true := by
    rw [List.all_eq_true] at hs ⊢
    intro k hk
    refine hs k ?_
    simp only [DataW.weights, hu, List.map_cons, List.map_nil, DataW.weightsEach, t1, List.mem_append]
    exact .inr (.inl hk)
  obtain ⟨es, hes⟩ := reads_edges h1 hs1
  exact ⟨⟨z, es⟩, v1, rfl, hes⟩
end

theorem weigh {H : Type} {P : Program} {ts : List TypeId} {ds : List (DataW H)} (h : (DataW.weightsEach P ts ds).all (· ≤ reachBytes) = true) (j : Nat) (t : TypeId) (d : DataW H) (ht : ts[j]? = some t) (hd : ds[j]? = some d) : (d.weights P t).all (· ≤ reachBytes) = true := by
  rw [List.all_eq_true] at h ⊢
  intro k hk
  exact h k (DataW.weights_mem_each ht hd k hk)

end Go.Proofs.YtbjoblkigbphhaaGreat

