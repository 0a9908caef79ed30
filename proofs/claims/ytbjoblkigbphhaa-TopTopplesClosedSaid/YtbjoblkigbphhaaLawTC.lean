/-
  TopTopplesClosed: for every graph, every divisor and every sink the law returns true, and its arguments read as before. No conditions beyond the row's own.
-/
import Derived.Test.YtbjoblkigbphhaaC5
import Derived.Test.YtbjoblkigbphhaaRd
namespace Go.Proofs.Ytbjoblkigbphhaa.TopTopplesClosedLaw
set_option linter.unusedSimpArgs false
open Go.ChangeShapes Go.WideShapes Go.ChangeAt Go.RowKit
set_option linter.unusedVariables false

theorem und_u8 : Try.prog.underlying 5 = some (.int .u8) := by kernel_rfl
set_option maxRecDepth 100000 in
theorem lifted (os : Os) (started : os.Started) (H : Type) (enc : TypeId × Value → H) :
    ReturnsInHanded {} Try.checked os 4 .any (Rows.topTopplesClosedSpec.pre6 enc Try.prog Try.f4 Rows.topTopplesClosedRow.domain false) (Rows.topTopplesClosedSpec.post enc Try.prog Try.f4 false true false false) := by
  refine returnsInHanded_of_change_sized (C := Try.checked) law_own started (by kernel_rfl) Try.func4
    (ChangeSpec.witness6 (enc := enc) (C := Try.checked) false ⟨#[], #[.agg #[.int .i64 0, .slice none 0 0], .slice none 0 0, .int .u8 0], []⟩ 8 (by kernel_rfl) (by kernel_rfl) (by kernel_rfl) (by kernel_rfl)) ?_
  intro W base args ds gs before hval0 hW hcnd hsz0 _
  have hsz : (DataW.weightsEach Try.prog (Try.f4.params.toList ++ Rows.topTopplesClosedSpec.plain.varTypes Try.prog) (ds ++ gs)).all (· ≤ reachBytes) = true := hsz0
  clear hsz0
  have hval : ∀ (j : Nat) t v, Try.f4.params[j]? = some t → args[j]? = some v → Value.okWide Try.prog W .any base t v := hval0
  have hW' := hW
  obtain ⟨p, q, hA0, hV, rfl, hfz, hnd⟩ := hW
  have hA : DataW.TrodAll enc Try.prog W 0 (fun _ => true) true Try.f4.params.toList args.toList ds p := hA0
  rw [Try.params4] at hA hval hsz
  obtain ⟨v0, v1, v2, d0, d1, d2, p0, p1, p2, rfl, rfl, rfl, h0, h1, h2⟩ := trodAll_three hA
  obtain ⟨rfl, rfl⟩ := trodVars_none hV
  have k0 := h0
  have k1 := h1
  have lt0 : ∀ x ∈ p0, x.block < W.heap.size := by obtain ⟨m, hm⟩ := k0; exact DataW.trod_lt m _ _ _ hm
  have lt1 : ∀ x ∈ p1, x.block < W.heap.size := by obtain ⟨m, hm⟩ := k1; exact DataW.trod_lt m _ _ _ hm
  obtain ⟨g, w0⟩ := reads_graph (hval 0 24 v0 rfl rfl) h0 (weigh hsz 0 _ _ rfl rfl)
  obtain ⟨a1, len1, cap1, rfl⟩ := okWide_slice und_Div (hval 1 26 v1 rfl rfl)
  obtain ⟨fuel, hf⟩ := h1
  obtain ⟨dl, w1⟩ := reads_ints und_Div (by simpa [Value.cells] using hf) (weigh hsz 1 _ _ rfl rfl)
  obtain ⟨sk, rfl, rfl, rfl, hsk⟩ := open_int und_u8 (hval 2 5 v2 rfl rfl) h2
  clear hA0 hval0
  refine (l_Closed g v0 dl _ sk (by simp only [Lit.wf, Bool.and_eq_true, decide_eq_true_eq, show IntKind.u8.min = 0 from rfl, show IntKind.u8.max = 255 from rfl] at hsk; exact hsk) W w0 w1).mono fun e W' ⟨he, bel⟩ => ?_
  subst he
  exact ⟨_, rfl, _, _, _, [], _, [], hW', trodAll_mk1 (shut_bool und_bool _), (trodAll_cons_mk (Below.trod law_laidOut (by kernel_rfl) (of_decide_eq_true (by kernel_rfl)) k0 bel lt0) (trodAll_cons_mk (Below.trod law_laidOut (by kernel_rfl) (of_decide_eq_true (by kernel_rfl)) k1 bel lt1) (trodAll_cons_mk (shut_int und_u8 hsk) trodAll_mk0))), rfl, bel.frame _, fun h => by cases h⟩

theorem over : Rows.topTopplesClosedRow.holds Try.pinned (OpenSpec.ofChange Rows.topTopplesClosedSpec) :=
  OpenClaim.holds_of_wide 4 Try.f4 rfl rfl rfl rfl rfl rfl rfl ⟨rfl, rfl, rfl, rfl, rfl⟩ rfl rfl rfl rfl rfl (by kernel_rfl) Try.func4 (by kernel_rfl)
    (of_decide_eq_true (by kernel_rfl)) (by unfold Func.isWrapper; first | (rw [if_pos (by decide +kernel)]; kernel_rfl) | (rw [if_neg (by decide +kernel)]; exact ⟨rfl, rfl⟩))
    (fun os started H enc _ => lifted os started H enc)

theorem proved : Rows.TopTopplesClosedSaid := over
#print axioms proved
end Go.Proofs.Ytbjoblkigbphhaa.TopTopplesClosedLaw
