/-
  From what an argument reads as to the shapes of this proof: piles of a case, slices of bytes.
-/
import Derived.Test.YtbjoblkigbphhaaLaw
import Derived.Test.YtbjoblkigbphhaaQ11
namespace Go.Proofs.Ytbjoblkigbphhaa
set_option linter.unusedSimpArgs false
open Go.ChangeShapes Go.WideShapes Go.ChangeAt Go.RowKit Go.Deep Go.Joins
set_option linter.unusedVariables false
theorem cells_Case : Try.prog.cellsOf 29 = 4 := by kernel_rfl
theorem und_Script : Try.prog.underlying 27 = some (.slice 3) := by kernel_rfl
theorem und_u8 : Try.prog.underlying 5 = some (.int .u8) := by kernel_rfl
theorem und_U8s : Try.prog.underlying 30 = some (.slice 5) := by kernel_rfl
theorem cells_u8 : Try.prog.cellsOf 5 = 1 := by kernel_rfl
theorem bytes_u8 : Try.prog.bytesOf 5 = 1 := by kernel_rfl
theorem struct_case : ∃ f0 f1 f2 f3 : Field, Try.prog.underlying 29 = some (.struct #[f0, f1, f2, f3]) ∧ f0.type = 3 ∧ f1.type = 26 ∧ f2.type = 25 ∧ f3.type = 27 ∧ oneCellFields Try.prog #[f0, f1, f2, f3] = true :=
  ⟨_, _, _, _, Try.underlying29, rfl, rfl, rfl, rfl, by kernel_rfl⟩
set_option maxRecDepth 100000 in
/-- A pile that came in. -/
theorem reads_case {H : Type} {enc : TypeId × Value → H} {W : World} {base : Nat} {held : Bool} {r : Reach} {b0 : Nat} {v : Value} {d : DataW H} {p : List MemPlace} (hv : Value.okWide Try.prog W r b0 29 v) (h : DataW.Trod enc Try.prog W base (fun _ => true) held 29 v d p)
    (hs : (d.weights Try.prog 29).all (· ≤ reachBytes) = true) : ∃ q ds ps ss, PileR W v q ds ps ss := by
  obtain ⟨f0, f1, f2, f3, hu, t0, t1, t2, t3, hone⟩ := struct_case
  obtain ⟨v0, v1, v2, v3, y0, y1, y2, y3, n, rfl, rfl, rfl, h0, h1, h2, h3⟩ := open_agg4 hu hone cells_Case hv h
  rw [t0] at h0
  rw [t1] at h1
  rw [t2] at h2
  rw [t3] at h3
  obtain ⟨z, e0, _⟩ := DataW.trod_int und_int h0
  simp at e0
  subst e0
  have hs1 : (y1.1.weights Try.prog 26).all (· ≤ reachBytes) = true := by
    rw [List.all_eq_true] at hs ⊢
    intro k hk
    refine hs k ?_
    simp only [DataW.weights, hu, List.map_cons, List.map_nil, DataW.weightsEach, t1, t2, t3, List.mem_append]
    exact .inr (.inl hk)
  have hs2 : (y2.1.weights Try.prog 25).all (· ≤ reachBytes) = true := by
    rw [List.all_eq_true] at hs ⊢
    intro k hk
    refine hs k ?_
    simp only [DataW.weights, hu, List.map_cons, List.map_nil, DataW.weightsEach, t1, t2, t3, List.mem_append]
    exact .inr (.inr (.inl hk))
  have hs3 : (y3.1.weights Try.prog 27).all (· ≤ reachBytes) = true := by
    rw [List.all_eq_true] at hs ⊢
    intro k hk
    refine hs k ?_
    simp only [DataW.weights, hu, List.map_cons, List.map_nil, DataW.weightsEach, t1, t2, t3, List.mem_append]
    exact .inr (.inr (.inr (.inl hk)))
  obtain ⟨ds, hd⟩ := reads_ints und_Div h1 hs1
  obtain ⟨ps, hp⟩ := reads_ints und_Ints h2 hs2
  obtain ⟨ss, hss⟩ := reads_ints und_Script h3 hs3
  exact ⟨z, ds, ps, ss, v1, v2, v3, rfl, hd, hp, hss⟩

/-- v is a slice of bytes that holds l in w. -/
def U8R (w : World) (v : Value) (l : List Int) : Prop :=
  ∃ a cap, v = .slice a l.length cap ∧ l.length ≤ cap ∧ cap ≤ 9223372036854775807 ∧ CellsAt w a (l.map (Value.int .u8)) ∧ ∀ b ∈ l, 0 ≤ b ∧ b ≤ 255
set_option maxRecDepth 100000 in
theorem reads_u8s {H : Type} {enc : TypeId × Value → H} {W : World} {base : Nat} {held : Bool} {fuel : Nat} {v : Value} {y : DataW H × List MemPlace} (h : DataW.trod enc Try.prog W base (fun _ => true) held fuel 30 [v] = some y) : ∃ l, U8R W v l := by
  rcases open_slice und_U8s h with ⟨hcs, rfl⟩ | ⟨a, len, cap, m, n, D, Pl, hcs, _, hl, hm, hmm, rfl, hx⟩
  · simp at hcs
    subst hcs
    exact ⟨[], none, 0, rfl, Nat.le_refl _, by omega, .inl rfl, fun b hb => by cases hb⟩
  · simp at hcs
    subst hcs
    simp only [if_true] at hmm
    subst hmm
    have each : ∀ i, i < m → ∃ x : Int, W.cell? (a.add i) = some (.int .u8 x) ∧ 0 ≤ x ∧ x ≤ 255 := by
      intro i hi
      obtain ⟨cs', h1, h2⟩ := hx i hi
      rw [cells_u8, Nat.mul_one] at h1
      obtain ⟨n0, e0, _, hf⟩ := DataW.trod_int und_u8 h2
      subst e0
      obtain ⟨_, _, hcell⟩ := World.cells?_some h1
      have := hcell 0 (by omega)
      rw [add_add] at this
      refine ⟨n0, by simpa using this, ?_⟩
      simp only [Lit.wf, Bool.and_eq_true, decide_eq_true_eq, show IntKind.u8.min = 0 from rfl, show IntKind.u8.max = 255 from rfl] at hf
      exact hf
    obtain ⟨q, hq⟩ := choose_lt (α := Int) each
    refine ⟨(List.range len).map q, some a, m, by simp, by simpa using hl, by unfold maxLen at hm; omega, ?_, ?_⟩
    · refine cellsAt_of W a len 1 _ (by decide) (by simp) fun i hi j hj => ?_
      obtain rfl : j = 0 := by omega
      rw [Nat.mul_one, Nat.add_zero, (hq i (by omega)).1]
      simp [hi]
    · intro b hb
      obtain ⟨i, hi, rfl⟩ := List.mem_map.1 hb
      exact (hq i (by have := List.mem_range.1 hi; omega)).2
end Go.Proofs.Ytbjoblkigbphhaa
