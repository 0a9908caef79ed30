/-
  From what an argument reads as to the shapes of this proof: piles of a case, slices of bytes.
-/
import Derived.Test.YtbjoblkigbphhaaGreatLaw
import Derived.Test.YtbjoblkigbphhaaGreatQ11
namespace Go.Proofs.YtbjoblkigbphhaaGreat
set_option linter.unusedSimpArgs false
open Go.ChangeShapes Go.WideShapes Go.ChangeAt Go.RowKit Go.Deep Go.Joins
set_option linter.unusedVariables false
theorem cells_Case : Tryz.prog.cellsOf 29 = 4 := by kernel_rfl
theorem und_Script : Tryz.prog.underlying 27 = some (.slice 3) := by kernel_rfl
theorem und_u8 : Tryz.prog.underlying 5 = some (.int .u8) := by kernel_rfl
theorem cells_u8 : Tryz.prog.cellsOf 5 = 1 := by kernel_rfl
theorem bytes_u8 : Tryz.prog.bytesOf 5 = 1 := by kernel_rfl
theorem struct_case : ∃ f0 f1 f2 f3 : Field, Tryz.prog.underlying 29 = some (.struct #[f0, f1, f2, f3]) ∧ f0.type = 3 ∧ f1.type = 26 ∧ f2.type = 25 ∧ f3.type = 27 ∧ oneCellFields Tryz.prog #[f0, f1, f2, f3] = true :=
  ⟨_, _, _, _, Tryz.underlying29, rfl, rfl, rfl, rfl, by kernel_rfl⟩
set_option maxRecDepth 100000 in
/-- A pile that came in. -/
theorem reads_case {H : Type} {enc : TypeId × Value → H} {W : World} {base : Nat} {held : Bool} {r : Reach} {b0 : Nat} {v : Value} {d : DataW H} {p : List MemPlace} (hv : Value.okWide Tryz.prog W r b0 29 v) (h : DataW.Trod enc Tryz.prog W base (fun _ => true) held 29 v d p)
    (hs : (d.weights Tryz.prog 29).all (· ≤ reachBytes) = true) : ∃ q ds ps ss, PileR W v q ds ps ss := by
  obtain ⟨f0, f1, f2, f3, hu, t0, t1, t2, t3, hone⟩ := struct_case
  obtain ⟨v0, v1, v2, v3, y0, y1, y2, y3, n, rfl, rfl, rfl, h0, h1, h2, h3⟩ := open_agg4 hu hone cells_Case hv h
  rw [t0] at h0
  rw [t1] at h1
  rw [t2] at h2
  rw [t3] at h3
  obtain ⟨z, e0, _⟩ := DataW.trod_int und_int h0
  simp at e0
  subst e0
  have hs1 : (y1.1.weights Tryz.prog 26).all (· ≤ reachBytes) = true := by
    rw [List.all_eq_true] at hs ⊢
    intro k hk
    refine hs k ?_
    simp only [DataW.weights, hu, List.map_cons, List.map_nil, DataW.weightsEach, t1, t2, t3, List.mem_append]
    exact .inr (.inl hk)
  have hs2 : (y2.1.weights Tryz.prog 25).all (· ≤ reachBytes) = true := by
    rw [List.all_eq_true] at hs ⊢
    intro k hk
    refine hs k ?_
    simp only [DataW.weights, hu, List.map_cons, List.map_nil, DataW.weightsEach, t1, t2, t3, List.mem_append]
    exact .inr (.inr (.inl hk))
  have hs3 : (y3.1.weights Tryz.prog 27).all (· ≤ reachBytes) = true := by
    rw [List.all_eq_true] at hs ⊢
    intro k hk
    refine hs k ?_
    simp only [DataW.weights, hu, List.map_cons, List.map_nil, DataW.weightsEach, t1, t2, t3, List.mem_append]
    exact .inr (.inr (.inr (.inl hk)))
  obtain ⟨ds, hd⟩ := reads_ints und_Div h1 hs1
  obtain ⟨ps, hp⟩ := reads_ints und_Ints h2 hs2
  obtain ⟨ss, hss⟩ := reads_ints und_Script h3 hs3
  exact ⟨z, ds, ps, ss, v1, v2, v3, rfl, hd, hp, hss⟩

/-- v is a slice of bytes that holds l in w. -/
def U8R (w : World) (v : Value) (l : List Int) : Prop :=
  ∃ a cap, v = .slice a l.length cap ∧ l.length ≤ cap ∧ cap ≤ 9223372036854775807 ∧ CellsAt w a (l.map (Value.int .u8)) ∧ ∀ b ∈ l, 0 ≤ b ∧ b ≤ 255
end Go.Proofs.YtbjoblkigbphhaaGreat
