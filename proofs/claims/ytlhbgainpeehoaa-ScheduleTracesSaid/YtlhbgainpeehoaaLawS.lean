/-
  ScheduleSettles: for every graph, every divisor and every plan the law returns true, and its arguments read as before. No conditions beyond the row's own.
-/
import Derived.Test.YtlhbgainpeehoaaLaw
import Derived.WalkKit
namespace Go.Proofs.Ytlhbgainpeehoaa
open Go.RowKit

def triL (N : Nat) : Int ⊕ St → List Int
  | .inl _ => []
  | .inr s => vecOf N s.L
def triT (N : Nat) : Int ⊕ St → List Int
  | .inl _ => []
  | .inr s => vecOf N s.T
def triK : Int ⊕ St → Int
  | .inl k => k
  | .inr _ => 0
theorem triL_len {N : Nat} {r : Int ⊕ St} (hN : ∀ s, r = .inr s → N ≤ 1000000) : (triL N r).length ≤ 1000000000 := by
  cases r with
  | inl k => simp [triL]
  | inr s => have := hN s rfl; simp only [triL, vecOf_len]; omega
theorem triT_len {N : Nat} {r : Int ⊕ St} (hN : ∀ s, r = .inr s → N ≤ 1000000) : (triT N r).length ≤ 1000000000 := by
  cases r with
  | inl k => simp [triT]
  | inr s => have := hN s rfl; simp only [triT, vecOf_len]; omega
theorem tri_ints {w w1 : World} {N : Nat} {r : Int ⊕ St} {e : Ending} (hN : ∀ s, r = .inr s → N ≤ 1000000) (hr : RetTri 3 w N r e w1) :
    Below w.heap.size w w1 ∧ ∃ va vs, e = .returned (.tuple #[va, vs, .int .i64 (triK r)]) ∧ IntsR w1 va (triL N r) ∧ IntsR w1 vs (triT N r) := by
  cases r with
  | inl k => obtain ⟨hB, rfl⟩ := hr; exact ⟨hB, _, _, rfl, ints_nil _, ints_nil _⟩
  | inr s =>
    obtain ⟨hB, b1, c1, b2, c2, he, h1, h2⟩ := hr
    exact ⟨hB, _, _, he, owns_intsN h1 (vecOf_len _ _) (hN s rfl), owns_intsN h2 (vecOf_len _ _) (hN s rfl)⟩
theorem settle_small {g : G} {q : Int} {ds picks : List Int} (s : St) (h : settleR g q ds picks = .inr s) : g.n.toNat ≤ 1000000 := by
  by_cases hg : givErr g q ds picks = 0
  · have hc : checkErr g = 0 := (cfg_ok (giv_ok hg).1).1
    unfold checkErr at hc
    split at hc <;> omega
  · unfold settleR at h; rw [if_pos hg] at h; cases h

set_option maxRecDepth 100000 in
set_option maxHeartbeats 4000000 in
theorem l_Settles (g : G) (gv : Value) (ds : List Int) (dv : Value) (q : Int) (l : List (Int × Int)) (lv : Value) (ps : List Int) (pv : Value) (w : World) (hg : GrR w gv g) (hd : IntsR w dv ds) (hl : PairsR w lv l) (hp : IntsR w pv ps) :
    Calls Try.prog 4 #[gv, dv, .agg #[.int .i64 q, lv, pv]] w fun e w' => e = .returned (.bool true) ∧ Below w.heap.size w w' := by
  have hg' := hg
  have hl' := hl
  have hp' := hp
  obtain ⟨ev, rfl, a, cap, rfl, hcap, hcm, hlen, hc⟩ := hg'
  obtain ⟨la, lc, rfl, _⟩ := hl'
  obtain ⟨pa, pc, rfl, _⟩ := hp'
  obtain ⟨W1, hW1⟩ : ∃ W : World, W = (w.alloc (.cells #[.int .i64 g.n, .slice a g.es.length cap] 24)).alloc (.cells #[.int .i64 q, .slice la l.length lc, .slice pa ps.length pc] 29) := ⟨_, rfl⟩
  have hB : Below w.heap.size w W1 := by rw [hW1]; exact ((Below.refl _ _).alloc (Nat.le_refl _) _).alloc (by simp) _
  have bG : Hid (Blk W1 w.heap.size #[.int .i64 g.n, .slice a g.es.length cap] 24) := by rw [hW1]; exact (Blk.new _ _ _).alloc _
  have bX' : Blk W1 (w.heap.size + 1) #[.int .i64 q, .slice la l.length lc, .slice pa ps.length pc] 29 := by rw [hW1]; have := Blk.new (w.alloc (.cells #[.int .i64 g.n, .slice a g.es.length cap] 24)) #[.int .i64 q, .slice la l.length lc, .slice pa ps.length pc] 29; simpa using this
  have bX := hid bX'
  clear bX'
  have hG := hid (hg.below hB)
  have hD := hid (hd.below hB)
  have hL := hid (hl.below hB)
  have hP := hid (hp.below hB)
  have HB := hid hB
  have c0 := bG.out.cell 0
  have c1 := bG.out.cell 1
  have hsm := hid (fun s h => settle_small (g := g) (q := q) (ds := ds) (picks := ps) s h)
  clear hg hd hl hp hB
  go_enter Try.func4, Try.ntmps4
  go_wp2_with fail
  rw [← hW1]
  clear hW1
  refine (r18_Few g _ ds _ _ hG.out hD.out).mono ?_
  rintro e w1 ⟨rfl, hB1⟩
  have B1 := hid hB1
  have x0 := (bX.out.below hB1).cell 0
  have x1 := (bX.out.below hB1).cell 1
  have x2 := (bX.out.below hB1).cell 2
  clear hB1 c0 c1
  cases hf : few18 g ds with
  | false =>
    go_simp
    go_wp2_with fail
    refine (l_awake _).mono ?_
    rintro e w2 ⟨rfl, hB2⟩
    go_simp
    go_wp2_with fail
    go_ret
    exact ⟨rfl, up (up HB.out B1.out) hB2⟩
  | true =>
  clear hf
  go_simp
  go_wp2_with fail
  refine (l_few q l _ ps _ _ (hL.out.below B1.out) (hP.out.below B1.out)).mono ?_
  rintro e w2 ⟨rfl, hB2⟩
  have k2 := up B1.out hB2
  have B2 := hid k2
  have y0 := (bG.out.below k2).cell 0
  have y1 := (bG.out.below k2).cell 1
  have z0 := (bX.out.below k2).cell 0
  have z2 := (bX.out.below k2).cell 2
  clear hB2 k2 x0 x1 x2 B1
  cases hf : fewB l.length && fewB ps.length with
  | false =>
    go_simp
    go_wp2_with fail
    refine (l_awake _).mono ?_
    rintro e w3 ⟨rfl, hB3⟩
    go_simp
    go_wp2_with fail
    go_ret
    exact ⟨rfl, up (up HB.out B2.out) hB3⟩
  | true =>
  clear hf
  go_simp
  go_wp2_with fail
  refine (p_Settle g _ q ds _ ps _ _ (hG.out.below B2.out) (hD.out.below B2.out) (hP.out.below B2.out)).mono ?_
  rintro e w3 hr
  obtain ⟨hB3, va, vs, rfl, ia, is⟩ := tri_ints hsm.out hr
  have k3 := up B2.out hB3
  have B3 := hid k3
  have Ia := hid ia
  have Is := hid is
  have u0 := (bG.out.below k3).cell 0
  have u1 := (bG.out.below k3).cell 1
  have v0 := (bX.out.below k3).cell 0
  have v2 := (bX.out.below k3).cell 2
  clear hr hB3 k3 ia is y0 y1 z0 z2 B2
  go_simp
  go_wp2_with fail
  refine (r21_Settle g _ q ds _ ps _ _ (hG.out.below B3.out) (hD.out.below B3.out) (hP.out.below B3.out)).mono ?_
  rintro e w4 hr
  obtain ⟨hB4, vb, vt, rfl, ib, it⟩ := tri_ints hsm.out hr
  have Ja := hid (Ia.out.below hB4)
  have Js := hid (Is.out.below hB4)
  have Jb := hid ib
  have Jt := hid it
  have B4 := hid (up B3.out hB4)
  clear hr hB4 ib it Ia Is u0 u1 v0 v2 B3
  have hLl := hid (triL_len hsm.out)
  have hTl := hid (triT_len hsm.out)
  generalize triL g.n.toNat (settleR g q ds ps) = L at *
  generalize triT g.n.toNat (settleR g q ds ps) = T at *
  generalize triK (settleR g q ds ps) = kk at *
  have hkk : (kk == kk) = true := by simp
  go_simp
  go_wp2_with fail
  refine (r19_Same_eq L T _ _ _ _ _ Ja.out Jb.out Js.out Jt.out hLl.out hTl.out).mono ?_
  rintro e w5 ⟨rfl, hB5⟩
  have B5 := hid (up B4.out hB5)
  clear hB5 B4
  go_simp
  go_wp2_with fail
  refine (l_awake _).mono ?_
  rintro e w6 ⟨rfl, hB6⟩
  go_simp
  go_wp2_with fail
  go_ret
  exact ⟨rfl, up (up HB.out B5.out) hB6⟩

end Go.Proofs.Ytlhbgainpeehoaa

namespace Go.Proofs.Ytlhbgainpeehoaa.ScheduleSettlesLaw
open Go.ChangeShapes Go.WideShapes Go.ChangeAt Go.RowKit
set_option linter.unusedVariables false

set_option maxRecDepth 100000 in
theorem lifted (os : Os) (started : os.Started) (H : Type) (enc : TypeId × Value → H) :
    ReturnsInHanded {} Try.checked os 4 .any (Rows.scheduleSettlesSpec.pre6 enc Try.prog Try.f4 Rows.scheduleSettlesRow.domain false) (Rows.scheduleSettlesSpec.post enc Try.prog Try.f4 false true false false) := by
  refine returnsInHanded_of_change_sized (C := Try.checked) law_own started (by kernel_rfl) Try.func4
    (ChangeSpec.witness6 (enc := enc) (C := Try.checked) false ⟨#[], #[.agg #[.int .i64 0, .slice none 0 0], .slice none 0 0, .agg #[.int .i64 0, .slice none 0 0, .slice none 0 0]], []⟩ 8 (by kernel_rfl) (by kernel_rfl) (by kernel_rfl) (by kernel_rfl)) ?_
  intro W base args ds gs before hval0 hW hcnd hsz0 _
  have hsz : (DataW.weightsEach Try.prog (Try.f4.params.toList ++ Rows.scheduleSettlesSpec.plain.varTypes Try.prog) (ds ++ gs)).all (· ≤ reachBytes) = true := hsz0
  clear hsz0
  have hval : ∀ (j : Nat) t v, Try.f4.params[j]? = some t → args[j]? = some v → Value.okWide Try.prog W .any base t v := hval0
  have hW' := hW
  obtain ⟨p, q, hA0, hV, rfl, hfz, hnd⟩ := hW
  have hA : DataW.TrodAll enc Try.prog W 0 (fun _ => true) true Try.f4.params.toList args.toList ds p := hA0
  rw [Try.params4] at hA hval hsz
  obtain ⟨v0, v1, v2, d0, d1, d2, p0, p1, p2, rfl, rfl, rfl, h0, h1, h2⟩ := trodAll_three hA
  obtain ⟨rfl, rfl⟩ := trodVars_none hV
  have k0 := h0
  have k1 := h1
  have k2 := h2
  have lt0 : ∀ x ∈ p0, x.block < W.heap.size := by obtain ⟨m, hm⟩ := k0; exact DataW.trod_lt m _ _ _ hm
  have lt1 : ∀ x ∈ p1, x.block < W.heap.size := by obtain ⟨m, hm⟩ := k1; exact DataW.trod_lt m _ _ _ hm
  have lt2 : ∀ x ∈ p2, x.block < W.heap.size := by obtain ⟨m, hm⟩ := k2; exact DataW.trod_lt m _ _ _ hm
  obtain ⟨g, w0⟩ := reads_graph (hval 0 24 v0 rfl rfl) h0 (weigh hsz 0 _ _ rfl rfl)
  obtain ⟨a1, len1, cap1, rfl⟩ := okWide_slice und_Div (hval 1 26 v1 rfl rfl)
  obtain ⟨fuel, hf⟩ := h1
  obtain ⟨dl, w1⟩ := reads_ints und_Div (by simpa [Value.cells] using hf) (weigh hsz 1 _ _ rfl rfl)
  obtain ⟨qq, lv, pv, l, ps, rfl, w2, w3⟩ := reads_plan (hval 2 29 v2 rfl rfl) h2 (weigh hsz 2 _ _ rfl rfl)
  clear hA0 hval0
  refine (l_Settles g v0 dl _ qq l lv ps pv W w0 w1 w2 w3).mono fun e W' ⟨he, bel⟩ => ?_
  subst he
  exact ⟨_, rfl, _, _, _, [], _, [], hW', trodAll_mk1 (shut_bool und_bool _), (trodAll_cons_mk (Below.trod law_laidOut (by kernel_rfl) (of_decide_eq_true (by kernel_rfl)) k0 bel lt0) (trodAll_cons_mk (Below.trod law_laidOut (by kernel_rfl) (of_decide_eq_true (by kernel_rfl)) k1 bel lt1) (trodAll_cons_mk (Below.trod law_laidOut (by kernel_rfl) (of_decide_eq_true (by kernel_rfl)) k2 bel lt2) trodAll_mk0))), rfl, bel.frame _, fun h => by cases h⟩

theorem over : Rows.scheduleSettlesRow.holds Try.pinned (OpenSpec.ofChange Rows.scheduleSettlesSpec) :=
  OpenClaim.holds_of_wide 4 Try.f4 rfl rfl rfl rfl rfl rfl rfl ⟨rfl, rfl, rfl, rfl, rfl⟩ rfl rfl rfl rfl rfl (by kernel_rfl) Try.func4 (by kernel_rfl)
    (of_decide_eq_true (by kernel_rfl)) (by unfold Func.isWrapper; first | (rw [if_pos (by decide +kernel)]; kernel_rfl) | (rw [if_neg (by decide +kernel)]; exact ⟨rfl, rfl⟩))
    (fun os started H enc _ => lifted os started H enc)

theorem proved : Rows.ScheduleSettlesSaid := over
#print axioms proved
end Go.Proofs.Ytlhbgainpeehoaa.ScheduleSettlesLaw
