/-
  ScheduleRuns: for every graph, every divisor and every plan the law returns true, and its arguments read as before. No conditions beyond the row's own.
-/
import Derived.Test.YtlhbgainpeehoaaLawS
import Derived.Test.YtlhbgainpeehoaaR21h
namespace Go.Proofs.Ytlhbgainpeehoaa
open Go.RowKit

def trcL : Int ⊕ List Int → List Int
  | .inl _ => []
  | .inr tr => tr
def trcK : Int ⊕ List Int → Int
  | .inl k => k
  | .inr _ => 0
theorem trc_ints {w w1 : World} {r : Int ⊕ List Int} {e : Ending} (hN : ∀ tr, r = .inr tr → tr.length ≤ 1000000) (hr : RetTrc 3 w r e w1) :
    Below w.heap.size w w1 ∧ ∃ va, e = .returned (.tuple #[va, .int .i64 (trcK r)]) ∧ IntsR w1 va (trcL r) := by
  cases r with
  | inl k => obtain ⟨hB, rfl⟩ := hr; exact ⟨hB, _, rfl, ints_nil _⟩
  | inr tr =>
    obtain ⟨hB, v, he, h1⟩ := hr
    obtain ⟨a, c, rfl⟩ := owns_slice h1
    exact ⟨hB, _, he, owns_intsN h1 rfl (hN tr rfl)⟩
theorem run_small {g : G} {q : Int} {ds : List Int} {l : List (Int × Int)} (s : St) (h : runR g q ds l = .inr s) : g.n.toNat ≤ 1000000 := by
  by_cases hg : runErr g q ds l = 0
  · have hc : checkErr g = 0 := (cfg_ok (run_ok hg).1).1
    unfold checkErr at hc
    split at hc <;> omega
  · unfold runR at h; rw [if_pos hg] at h; cases h
theorem trace_small {g : G} {q : Int} {ds : List Int} {l : List (Int × Int)} (tr : List Int) (h : traceR g q ds l = .inr tr) : tr.length ≤ 1000000 := by
  by_cases hg : runErr g q ds l = 0
  · have h2 := (evs_ok (run_ok hg).2).1
    unfold traceR at h
    rw [if_neg (by simpa using hg)] at h
    obtain rfl := Sum.inr.inj h
    rw [evTo_len]
    omega
  · unfold traceR at h; rw [if_pos hg] at h; cases h

set_option maxRecDepth 100000 in
set_option maxHeartbeats 4000000 in
theorem l_Runs (g : G) (gv : Value) (ds : List Int) (dv : Value) (q : Int) (l : List (Int × Int)) (lv : Value) (ps : List Int) (pv : Value) (w : World) (hg : GrR w gv g) (hd : IntsR w dv ds) (hl : PairsR w lv l) (hp : IntsR w pv ps) :
    Calls Try.prog 3 #[gv, dv, .agg #[.int .i64 q, lv, pv]] w fun e w' => e = .returned (.bool true) ∧ Below w.heap.size w w' := by
  have hg' := hg
  have hl' := hl
  have hp' := hp
  obtain ⟨ev, rfl, a, cap, rfl, hcap, hcm, hlen, hc⟩ := hg'
  obtain ⟨la, lc, rfl, _⟩ := hl'
  obtain ⟨pa, pc, rfl, _⟩ := hp'
  obtain ⟨W1, hW1⟩ : ∃ W : World, W = (w.alloc (.cells #[.int .i64 g.n, .slice a g.es.length cap] 24)).alloc (.cells #[.int .i64 q, .slice la l.length lc, .slice pa ps.length pc] 29) := ⟨_, rfl⟩
  have hB : Below w.heap.size w W1 := by rw [hW1]; exact ((Below.refl _ _).alloc (Nat.le_refl _) _).alloc (by simp) _
  have bG : Hid (Blk W1 w.heap.size #[.int .i64 g.n, .slice a g.es.length cap] 24) := by rw [hW1]; exact (Blk.new _ _ _).alloc _
  have bX' : Blk W1 (w.heap.size + 1) #[.int .i64 q, .slice la l.length lc, .slice pa ps.length pc] 29 := by rw [hW1]; have := Blk.new (w.alloc (.cells #[.int .i64 g.n, .slice a g.es.length cap] 24)) #[.int .i64 q, .slice la l.length lc, .slice pa ps.length pc] 29; simpa using this
  have bX := hid bX'
  clear bX'
  have hG := hid (hg.below hB)
  have hD := hid (hd.below hB)
  have hL := hid (hl.below hB)
  have hP := hid (hp.below hB)
  have HB := hid hB
  have c0 := bG.out.cell 0
  have c1 := bG.out.cell 1
  have hsm := hid (fun s h => run_small (g := g) (q := q) (ds := ds) (l := l) s h)
  have hst := hid (fun tr h => trace_small (g := g) (q := q) (ds := ds) (l := l) tr h)
  clear hg hd hl hp hB
  go_enter Try.func3, Try.ntmps3
  go_wp2_with fail
  rw [← hW1]
  clear hW1
  refine (r18_Few g _ ds _ _ hG.out hD.out).mono ?_
  rintro e w1 ⟨rfl, hB1⟩
  have B1 := hid hB1
  have x0 := (bX.out.below hB1).cell 0
  have x1 := (bX.out.below hB1).cell 1
  have x2 := (bX.out.below hB1).cell 2
  clear hB1 c0 c1
  cases hf : few18 g ds with
  | false =>
    go_simp
    go_wp2_with fail
    refine (l_awake _).mono ?_
    rintro e w2 ⟨rfl, hB2⟩
    go_simp
    go_wp2_with fail
    go_ret
    exact ⟨rfl, up (up HB.out B1.out) hB2⟩
  | true =>
  clear hf
  go_simp
  go_wp2_with fail
  refine (l_few q l _ ps _ _ (hL.out.below B1.out) (hP.out.below B1.out)).mono ?_
  rintro e w2 ⟨rfl, hB2⟩
  have k2 := up B1.out hB2
  have B2 := hid k2
  have y0 := (bG.out.below k2).cell 0
  have y1 := (bG.out.below k2).cell 1
  have z0 := (bX.out.below k2).cell 0
  have z2 := (bX.out.below k2).cell 1
  clear hB2 k2 x0 x1 x2 B1
  cases hf : fewB l.length && fewB ps.length with
  | false =>
    go_simp
    go_wp2_with fail
    refine (l_awake _).mono ?_
    rintro e w3 ⟨rfl, hB3⟩
    go_simp
    go_wp2_with fail
    go_ret
    exact ⟨rfl, up (up HB.out B2.out) hB3⟩
  | true =>
  clear hf
  go_simp
  go_wp2_with fail
  refine (p_Run g _ q ds _ l _ _ (hG.out.below B2.out) (hD.out.below B2.out) (hL.out.below B2.out)).mono ?_
  rintro e w3 hr
  obtain ⟨hB3, va, vs, rfl, ia, is⟩ := tri_ints hsm.out hr
  have B3 := hid (up B2.out hB3)
  have Ia := hid ia
  have Is := hid is
  clear hr hB3 ia is y0 y1 z0 z2 B2
  have hLl := hid (triL_len hsm.out)
  have hTl := hid (triT_len hsm.out)
  have hrun := hid (fun (w4 : World) (v4 : Value) (h : Below W1.heap.size W1 w4) (hp : PairsR w4 v4 l) => r21_Run g _ q ds _ l _ _ (hG.out.below h) (hD.out.below h) hp)
  have hri := hid (fun (w4 w5 : World) (e : Ending) (h : RetTri 3 w4 g.n.toNat (runR g q ds l) e w5) => tri_ints hsm.out h)
  have hpt := hid (fun (w4 : World) (h : Below W1.heap.size W1 w4) => p_Trace g _ q ds _ l _ _ (hG.out.below h) (hD.out.below h) (hL.out.below h))
  have hrt := hid (fun (w4 : World) (v4 : Value) (h : Below W1.heap.size W1 w4) (hp : PairsR w4 v4 l) => r21_Trace g _ q ds _ l _ _ (hG.out.below h) (hD.out.below h) hp)
  have hti := hid (fun (w4 w5 : World) (e : Ending) (h : RetTrc 3 w4 (traceR g q ds l) e w5) => trc_ints hst.out h)
  clear hsm hst
  generalize triL g.n.toNat (runR g q ds l) = L at *
  generalize triT g.n.toNat (runR g q ds l) = T at *
  generalize triK (runR g q ds l) = kk at *
  generalize trcL (traceR g q ds l) = Q at *
  generalize trcK (traceR g q ds l) = hh at *
  have hkk : (kk == kk) = true := by simp
  have hhh : (hh == hh) = true := by simp
  let S : World → Prop := fun w' => w'.cell? ⟨w.heap.size, 0, none⟩ = some (.int .i64 g.n) ∧ w'.cell? ⟨w.heap.size, 1, none⟩ = some (.slice a g.es.length cap) ∧ w'.cell? ⟨w.heap.size + 1, 0, none⟩ = some (.int .i64 q) ∧ w'.cell? ⟨w.heap.size + 1, 1, none⟩ = some (.slice la l.length lc)
  have hSk : Hid (∀ W, Below W1.heap.size W1 W → S W) := fun W h => ⟨(bG.out.below h).cell 0, (bG.out.below h).cell 1, (bX.out.below h).cell 0, (bX.out.below h).cell 1⟩
  go_simp
  go_wp2_with fail
  (refine wp_region_text 14 [0,1,2,3,4,5,6,7,8,9,10,11,12,13] S (by kernel_rfl) (by kernel_rfl) (by intro _ _ d _ _ h; cases d <;> exact h) ?hS ?_; rotate_left; simp only [List.map_cons, List.map_nil, List.getD_cons_zero, List.getD_cons_succ, List.drop_succ_cons, List.drop_zero])
  case hS => exact hSk.out _ B3.out.drew
  (repeat (refine' wpSeq_take rfl _ (by rfl) ?_ ?_; rotate_left; focus (intro w' hS; (try dsimp only at hS); obtain ⟨s1, s2, s3, s4⟩ := hS; go_simp; (first | done | with_reducible rfl)); (try simp only [Act.put, List.setIfInBounds_toArray, List.set_cons_zero, List.set_cons_succ])))
  refine wpSeq_call rfl (by rfl) (fun K hK => ?_)
  go_simp
  refine (l_events l _ _ (hL.out.below B3.out.drew)).mono ?_
  rintro e w4 ⟨v4, rfl, hP4, hB4⟩
  have k4 := hid (up B3.out.drew hB4)
  refine hK _ _ (hSk.out _ k4.out) ?_
  clear hK K
  refine wpSeq_call rfl (by rfl) (fun K hK => ?_)
  go_simp
  refine (hrun.out w4 v4 k4.out hP4).mono ?_
  rintro e w5 hr
  obtain ⟨hB5, vb, vt, rfl, ib, it⟩ := hri.out _ _ _ hr
  have k5 := hid (up k4.out hB5)
  refine hK _ _ (hSk.out _ k5.out) ?_
  clear hK K
  have Ja := hid (Ia.out.below (up (up (Below.drew (Below.refl _ _)) hB4) hB5))
  have Js := hid (Is.out.below (up (up (Below.drew (Below.refl _ _)) hB4) hB5))
  have Jb := hid ib
  have Jt := hid it
  clear hr hB4 hB5 hP4 ib it Ia Is k4 B3
  (repeat (refine' wpSeq_take rfl _ (by rfl) ?_ ?_; rotate_left; focus (intro w' hS; (try dsimp only at hS); obtain ⟨s1, s2, s3, s4⟩ := hS; go_simp; (first | done | with_reducible rfl)); (try simp only [Act.put, List.setIfInBounds_toArray, List.set_cons_zero, List.set_cons_succ])))
  refine wpSeq_nil ?_
  obtain ⟨u0, u1, u2, u3⟩ := hSk.out _ k5.out
  go_wp2_with fail
  refine (hpt.out _ k5.out).mono ?_
  rintro e w6 hr
  obtain ⟨hB6, vc, rfl, ic⟩ := hti.out _ _ _ hr
  have k6 := hid (up k5.out hB6)
  have Ka := hid (Ja.out.below hB6)
  have Ks := hid (Js.out.below hB6)
  have Kb := hid (Jb.out.below hB6)
  have Kt := hid (Jt.out.below hB6)
  have Kc := hid ic
  clear hr hB6 ic Ja Js Jb Jt k5 u0 u1 u2 u3
  go_simp
  go_wp2_with fail
  (refine wp_region_text 12 [0,1,2,3,4,5,6,7,8,9,10,11] S (by kernel_rfl) (by kernel_rfl) (by intro _ _ d _ _ h; cases d <;> exact h) ?hS ?_; rotate_left; simp only [List.map_cons, List.map_nil, List.getD_cons_zero, List.getD_cons_succ, List.drop_succ_cons, List.drop_zero])
  case hS => exact hSk.out _ k6.out.drew
  (repeat (refine' wpSeq_take rfl _ (by rfl) ?_ ?_; rotate_left; focus (intro w' hS; (try dsimp only at hS); obtain ⟨s1, s2, s3, s4⟩ := hS; go_simp; (first | done | with_reducible rfl)); (try simp only [Act.put, List.setIfInBounds_toArray, List.set_cons_zero, List.set_cons_succ])))
  refine wpSeq_call rfl (by rfl) (fun K hK => ?_)
  go_simp
  refine (l_events l _ _ (hL.out.below k6.out.drew)).mono ?_
  rintro e w7 ⟨v7, rfl, hP7, hB7⟩
  have k7 := hid (up k6.out.drew hB7)
  refine hK _ _ (hSk.out _ k7.out) ?_
  clear hK K
  refine wpSeq_call rfl (by rfl) (fun K hK => ?_)
  go_simp
  refine (hrt.out w7 v7 k7.out hP7).mono ?_
  rintro e w8 hr
  obtain ⟨hB8, vd, rfl, id'⟩ := hti.out _ _ _ hr
  have k8 := hid (up k7.out hB8)
  refine hK _ _ (hSk.out _ k8.out) ?_
  clear hK K
  have hz := hid (up (up (Below.drew (Below.refl _ w6)) hB7) hB8)
  have La := hid (Ka.out.below hz.out)
  have Ls := hid (Ks.out.below hz.out)
  have Lb := hid (Kb.out.below hz.out)
  have Lt := hid (Kt.out.below hz.out)
  have Lc := hid (Kc.out.below hz.out)
  have Ld := hid id'
  clear hr hB7 hB8 hP7 id' Ka Ks Kb Kt Kc k6 k7 hz
  (repeat (refine' wpSeq_take rfl _ (by rfl) ?_ ?_; rotate_left; focus (intro w' hS; (try dsimp only at hS); obtain ⟨s1, s2, s3, s4⟩ := hS; go_simp; (first | done | with_reducible rfl)); (try simp only [Act.put, List.setIfInBounds_toArray, List.set_cons_zero, List.set_cons_succ])))
  refine wpSeq_nil ?_
  clear S hSk
  go_wp2_with fail
  refine (r19_Same_eq L T _ _ _ _ _ La.out Lb.out Ls.out Lt.out hLl.out hTl.out).mono ?_
  rintro e w9 ⟨rfl, hB9⟩
  have k9 := hid (up k8.out hB9)
  have Mc := hid (Lc.out.below hB9)
  have Md := hid (Ld.out.below hB9)
  clear hB9 k8 La Ls Lb Lt Lc Ld
  go_simp
  go_wp2_with fail
  refine (c_Equal_eq Q _ _ _ Mc.out Md.out).mono ?_
  rintro e wa ⟨rfl, hBa⟩
  have k10 := hid (up k9.out hBa)
  clear hBa Mc Md k9
  go_simp
  go_wp2_with fail
  refine (l_awake _).mono ?_
  rintro e wb ⟨rfl, hBb⟩
  go_simp
  go_wp2_with fail
  go_ret
  exact ⟨rfl, up (up HB.out k10.out) hBb⟩

end Go.Proofs.Ytlhbgainpeehoaa

namespace Go.Proofs.Ytlhbgainpeehoaa.ScheduleRunsLaw
open Go.ChangeShapes Go.WideShapes Go.ChangeAt Go.RowKit
set_option linter.unusedVariables false

set_option maxRecDepth 100000 in
theorem lifted (os : Os) (started : os.Started) (H : Type) (enc : TypeId × Value → H) :
    ReturnsInHanded {} Try.checked os 3 .any (Rows.scheduleRunsSpec.pre6 enc Try.prog Try.f3 Rows.scheduleRunsRow.domain false) (Rows.scheduleRunsSpec.post enc Try.prog Try.f3 false true false false) := by
  refine returnsInHanded_of_change_sized (C := Try.checked) law_own started (by kernel_rfl) Try.func3
    (ChangeSpec.witness6 (enc := enc) (C := Try.checked) false ⟨#[], #[.agg #[.int .i64 0, .slice none 0 0], .slice none 0 0, .agg #[.int .i64 0, .slice none 0 0, .slice none 0 0]], []⟩ 8 (by kernel_rfl) (by kernel_rfl) (by kernel_rfl) (by kernel_rfl)) ?_
  intro W base args ds gs before hval0 hW hcnd hsz0 _
  have hsz : (DataW.weightsEach Try.prog (Try.f3.params.toList ++ Rows.scheduleRunsSpec.plain.varTypes Try.prog) (ds ++ gs)).all (· ≤ reachBytes) = true := hsz0
  clear hsz0
  have hval : ∀ (j : Nat) t v, Try.f3.params[j]? = some t → args[j]? = some v → Value.okWide Try.prog W .any base t v := hval0
  have hW' := hW
  obtain ⟨p, q, hA0, hV, rfl, hfz, hnd⟩ := hW
  have hA : DataW.TrodAll enc Try.prog W 0 (fun _ => true) true Try.f3.params.toList args.toList ds p := hA0
  rw [Try.params3] at hA hval hsz
  obtain ⟨v0, v1, v2, d0, d1, d2, p0, p1, p2, rfl, rfl, rfl, h0, h1, h2⟩ := trodAll_three hA
  obtain ⟨rfl, rfl⟩ := trodVars_none hV
  have k0 := h0
  have k1 := h1
  have k2 := h2
  have lt0 : ∀ x ∈ p0, x.block < W.heap.size := by obtain ⟨m, hm⟩ := k0; exact DataW.trod_lt m _ _ _ hm
  have lt1 : ∀ x ∈ p1, x.block < W.heap.size := by obtain ⟨m, hm⟩ := k1; exact DataW.trod_lt m _ _ _ hm
  have lt2 : ∀ x ∈ p2, x.block < W.heap.size := by obtain ⟨m, hm⟩ := k2; exact DataW.trod_lt m _ _ _ hm
  obtain ⟨g, w0⟩ := reads_graph (hval 0 24 v0 rfl rfl) h0 (weigh hsz 0 _ _ rfl rfl)
  obtain ⟨a1, len1, cap1, rfl⟩ := okWide_slice und_Div (hval 1 26 v1 rfl rfl)
  obtain ⟨fuel, hf⟩ := h1
  obtain ⟨dl, w1⟩ := reads_ints und_Div (by simpa [Value.cells] using hf) (weigh hsz 1 _ _ rfl rfl)
  obtain ⟨qq, lv, pv, l, ps, rfl, w2, w3⟩ := reads_plan (hval 2 29 v2 rfl rfl) h2 (weigh hsz 2 _ _ rfl rfl)
  clear hA0 hval0
  refine (l_Runs g v0 dl _ qq l lv ps pv W w0 w1 w2 w3).mono fun e W' ⟨he, bel⟩ => ?_
  subst he
  exact ⟨_, rfl, _, _, _, [], _, [], hW', trodAll_mk1 (shut_bool und_bool _), (trodAll_cons_mk (Below.trod law_laidOut (by kernel_rfl) (of_decide_eq_true (by kernel_rfl)) k0 bel lt0) (trodAll_cons_mk (Below.trod law_laidOut (by kernel_rfl) (of_decide_eq_true (by kernel_rfl)) k1 bel lt1) (trodAll_cons_mk (Below.trod law_laidOut (by kernel_rfl) (of_decide_eq_true (by kernel_rfl)) k2 bel lt2) trodAll_mk0))), rfl, bel.frame _, fun h => by cases h⟩

theorem over : Rows.scheduleRunsRow.holds Try.pinned (OpenSpec.ofChange Rows.scheduleRunsSpec) :=
  OpenClaim.holds_of_wide 3 Try.f3 rfl rfl rfl rfl rfl rfl rfl ⟨rfl, rfl, rfl, rfl, rfl⟩ rfl rfl rfl rfl rfl (by kernel_rfl) Try.func3 (by kernel_rfl)
    (of_decide_eq_true (by kernel_rfl)) (by unfold Func.isWrapper; first | (rw [if_pos (by decide +kernel)]; kernel_rfl) | (rw [if_neg (by decide +kernel)]; exact ⟨rfl, rfl⟩))
    (fun os started H enc _ => lifted os started H enc)

theorem proved : Rows.ScheduleRunsSaid := over
#print axioms proved
end Go.Proofs.Ytlhbgainpeehoaa.ScheduleRunsLaw
