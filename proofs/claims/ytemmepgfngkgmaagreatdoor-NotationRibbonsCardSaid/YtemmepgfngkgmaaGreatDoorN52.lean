/-
  ref: SameInts, SameRibbons at equal ribbon graphs, FewRibbon. Reading of an argument: a ribbon graph. The walk of NotationRibbons.
-/
import Derived.Test.YtemmepgfngkgmaaGreatDoorN51
namespace Go.Proofs.YtemmepgfngkgmaaGreatDoor
open Go.ChangeShapes Go.WideShapes Go.ChangeAt Go.RowKit Go.Deep Go.Joins
set_option linter.unusedVariables false
set_option linter.unusedSimpArgs false

theorem cells_Ribbon : Tryz.prog.cellsOf 40 = 3 := by kernel_rfl
theorem cells_GraphT : Tryz.prog.cellsOf 24 = 2 := by kernel_rfl
theorem cells_intsT : Tryz.prog.cellsOf 50 = 1 := by kernel_rfl
theorem cells_edgesT : Tryz.prog.cellsOf 22 = 1 := by kernel_rfl
theorem cells_listsT : Tryz.prog.cellsOf 38 = 1 := by kernel_rfl
theorem cells_intT : Tryz.prog.cellsOf 3 = 1 := by kernel_rfl
theorem bytes_intsT : Tryz.prog.bytesOf 50 = 24 := by kernel_rfl
theorem struct_ribbon : ∃ f0 f1 : Field, Tryz.prog.underlying 40 = some (.struct #[f0, f1]) ∧ f0.type = 24 ∧ f1.type = 38 ∧ f0.offset = 0 ∧ f1.offset = 2 :=
  ⟨_, _, Tryz.underlying40, rfl, rfl, rfl, rfl⟩
theorem struct_graphT : ∃ f0 f1 : Field, Tryz.prog.underlying 24 = some (.struct #[f0, f1]) ∧ f0.type = 3 ∧ f1.type = 22 ∧ f0.offset = 0 ∧ f1.offset = 1 :=
  ⟨_, _, Tryz.underlying24, rfl, rfl, rfl, rfl⟩
theorem wAll_mem {H : Type} {P : Program} {e : TypeId} : ∀ {l : List (DataW H)} {d : DataW H}, d ∈ l → ∀ n ∈ d.weights P e, n ∈ DataW.weightsAll P e l
  | [], _, h, _, _ => by cases h
  | x :: l, d, h, n, hn => by
    rw [DataW.weightsAll, List.mem_append]
    rcases List.mem_cons.1 h with rfl | h
    · exact .inl hn
    · exact .inr (wAll_mem h n hn)

section
variable {H : Type} {enc : TypeId × Value → H} {W : World} {base : Nat} {held : Bool}

set_option maxRecDepth 100000 in
theorem reads_lists {fuel : Nat} {v : Value} {y : DataW H × List MemPlace} (h : DataW.trod enc Tryz.prog W base (fun _ => true) held fuel 38 [v] = some y)
    (hs : (y.1.weights Tryz.prog 38).all (· ≤ reachBytes) = true) : ∃ ls, LsR W v ls := by
  rcases open_slice1 und_lists cells_intsT h with ⟨hcs, rfl⟩ | ⟨a, len, cap, m, n, V, D, Pl, hcs, _, hl, hm, hmm, rfl, hx⟩
  · simp at hcs
    subst hcs
    exact ⟨[], none, 0, [], rfl, Nat.le_refl _, by omega, by decide, .inl rfl, rfl, fun i hi => by simp at hi⟩
  · simp at hcs
    subst hcs
    simp only [if_true] at hmm
    subst hmm
    have each : ∀ i, i < len → ∃ l : List Int, IntsR W (V i) l := by
      intro i hi
      obtain ⟨_, h2⟩ := hx i (by omega)
      refine reads_ints und_ints h2 ?_
      rw [List.all_eq_true] at hs ⊢
      intro k hk
      refine hs k ?_
      simp only [DataW.weights, und_lists]
      refine List.mem_cons_of_mem _ (List.mem_append_left _ (wAll_mem ?_ k hk))
      exact List.mem_map.2 ⟨i, by simpa using hi, rfl⟩
    obtain ⟨q, hq⟩ := choose_lt (α := List Int) each
    refine ⟨(List.range len).map q, some a, m, (List.range len).map V, by simp, by simpa using hl, by unfold maxLen at hm; omega, ?_, ?_, by simp, fun i hi => ?_⟩
    · have hw : (len + (m - len)) * 24 ≤ reachBytes := by
        have := List.all_eq_true.1 hs ((len + (m - len)) * 24) (by simp [DataW.weights, und_lists, bytes_intsT])
        simpa using this
      have := reachBytes_lt
      simp
      omega
    · refine cellsAt_of W a len 1 _ (by decide) (by simp) fun i hi j hj => ?_
      obtain rfl : j = 0 := by omega
      rw [Nat.mul_one, Nat.add_zero, (hx i (by omega)).1]
      simp [hi]
    · have hi : i < len := by simpa using hi
      have e1 : ((List.range len).map V)[i]?.getD undef = V i := by simp [hi]
      have e2 : ((List.range len).map q)[i]?.getD [] = q i := by simp [hi]
      rw [e1, e2]
      exact hq i hi

set_option maxRecDepth 100000 in
theorem reads_ribbon {r : Reach} {b0 : Nat} {v : Value} {d : DataW H} {p : List MemPlace} (hv : Value.okWide Tryz.prog W r b0 40 v) (h : DataW.Trod enc Tryz.prog W base (fun _ => true) held 40 v d p)
    (hs : (d.weights Tryz.prog 40).all (· ≤ reachBytes) = true) : ∃ z : G × List (List Int), RibR W v z := by
  obtain ⟨f0, f1, hu, t0, t1, o0, o1⟩ := struct_ribbon
  obtain ⟨e0, e1, hg, u0, u1, p0, p1⟩ := struct_graphT
  obtain ⟨cs, rfl, hsz⟩ := okWide_struct hu hv
  obtain ⟨c0, c1, c2, rfl⟩ := array3 (hsz.trans cells_Ribbon)
  obtain ⟨fuel, hf⟩ := h
  obtain ⟨y0, y1, n, hx, _, h0, h1⟩ := trod_struct2 hu hf
  rw [t0, o0, cells_GraphT] at h0
  rw [t1, o1, cells_listsT] at h1
  have h0 : DataW.trod enc Tryz.prog W base (fun _ => true) held n 24 [c0, c1] = some y0 := h0
  have h1 : DataW.trod enc Tryz.prog W base (fun _ => true) held n 38 [c2] = some y1 := h1
  obtain ⟨z0, z1, m, hx2, _, g0, g1⟩ := trod_struct2 hg h0
  rw [u0, p0, cells_intT] at g0
  rw [u1, p1, cells_edgesT] at g1
  have g0 : DataW.trod enc Tryz.prog W base (fun _ => true) held m 3 [c0] = some z0 := g0
  have g1 : DataW.trod enc Tryz.prog W base (fun _ => true) held m 22 [c1] = some z1 := g1
  simp only [Prod.mk.injEq] at hx
  obtain ⟨rfl, rfl⟩ := hx
  subst hx2
  obtain ⟨zn, ez, _⟩ := DataW.trod_int und_int g0
  simp at ez
  subst ez
  have hsl : (y1.1.weights Tryz.prog 38).all (· ≤ reachBytes) = true := by
    rw [List.all_eq_true] at hs ⊢
    intro k hk
    refine hs k ?_
    simp only [DataW.weights, hu, List.map_cons, List.map_nil, DataW.weightsEach, t0, t1, List.mem_append]
    exact .inr (.inl hk)
  have hse : (z1.1.weights Tryz.prog 22).all (· ≤ reachBytes) = true := by
    rw [List.all_eq_true] at hs ⊢
    intro k hk
    refine hs k ?_
    simp only [DataW.weights, hu, hg, List.map_cons, List.map_nil, DataW.weightsEach, t0, t1, u0, u1, List.mem_append]
    exact .inl (.inr (.inl hk))
  obtain ⟨es, hes⟩ := reads_edges g1 hse
  obtain ⟨ls, hls⟩ := reads_lists h1 hsl
  exact ⟨(⟨zn, es⟩, ls), c1, c2, rfl, hes, hls⟩
end
end Go.Proofs.YtemmepgfngkgmaaGreatDoor
namespace Go.Proofs.YtemmepgfngkgmaaGreatDoor
open Go.RowKit
set_option linter.unusedVariables false
set_option linter.unusedSimpArgs false

set_option maxRecDepth 100000 in
set_option maxHeartbeats 1000000 in
theorem q_SameInts (l : List Int) (av bv : Value) (w : World) (ha : IntsR w av l) (hb : IntsR w bv l) :
    Calls Tryz.prog 73 #[av, bv] w fun e w' => e = .returned (.bool true) ∧ Below w.heap.size w w' := by
  obtain ⟨a, cap, rfl, h1, h2, hc⟩ := ha.at
  obtain ⟨a', cap', rfl, h1', h2', hd⟩ := hb.at
  have HC := hid hc
  have HD := hid hd
  have q2 : ((l.length : Int) != (l.length : Int)) = false := by simp
  clear hc hd ha hb
  go_enter Tryz.func73, Tryz.ntmps73
  go_wp2_with fail
  go_loopw [5] (fun i wr => ∃ k : Nat, k ≤ l.length ∧ i = .int .i64 k ∧ Hid (Below w.heap.size w wr)) (fun i _ => l.length - (intOf i).toNat)
  case atStart => exact ⟨0, Nat.zero_le _, rfl, Below.refl _ _⟩
  case round =>
    obtain ⟨k, hkn, rfl, HBr⟩ := hrel
    by_cases hlt : k < l.length
    · have hlt' : (k : Int) < (l.length : Int) := by omega
      have hk0 : (0 : Int) ≤ (k : Int) := by omega
      obtain ⟨b, off, rfl, hb, c0⟩ := HC.out k hlt
      obtain ⟨b', off', rfl, hb', d0⟩ := HD.out k hlt
      have c0 := (HBr.out.cell (p := ⟨b, off + k, none⟩) hb).trans c0
      have d0 := (HBr.out.cell (p := ⟨b', off' + k, none⟩) hb').trans d0
      generalize l[k]?.getD 0 = x at *
      have p1 : (x != x) = false := by simp
      go_wp2_with fail
      go_quiet (fail)
      go_wp2_with fail
      exact ⟨⟨k + 1, by omega, by go_num, below_dN HBr.out _⟩, by simp [intOf]; omega⟩
    · obtain rfl : k = l.length := by omega
      have hlt' : ¬ (l.length : Int) < (l.length : Int) := by omega
      go_wp2_with fail
      go_ret
      exact ⟨rfl, HBr.out⟩

set_option maxRecDepth 100000 in
set_option maxHeartbeats 4000000 in
theorem q_SameRib (g : G) (ls : List (List Int)) (av bv : Value) (w : World) (ha : RibR w av (g, ls)) (hb : RibR w bv (g, ls)) :
    Calls Tryz.prog 24 #[av, bv] w fun e w' => e = .returned (.bool true) ∧ Below w.heap.size w w' := by
  obtain ⟨ev, lv, rfl, hE, hL⟩ := ha
  obtain ⟨ev', lv', rfl, hE', hL'⟩ := hb
  have HE := hid hE
  have HE' := hid hE'
  have HL := hid hL
  have HL' := hid hL'
  obtain ⟨a, cap, rfl, _⟩ := hE
  obtain ⟨a', cap', rfl, _⟩ := hE'
  obtain ⟨la, lcap, _, rfl, hcap, hcm, _⟩ := hL
  obtain ⟨la', lcap', _, rfl, hcap', hcm', _⟩ := hL'
  dsimp only at hcap hcm hcap' hcm' HE HE' HL HL'
  have hA := hid ((Blk.new w #[.int .i64 g.n, .slice a g.es.length cap, .slice la ls.length lcap] 40).alloc (.cells #[.int .i64 g.n, .slice a' g.es.length cap', .slice la' ls.length lcap'] 40))
  have hBb := Blk.new (w.alloc (.cells #[.int .i64 g.n, .slice a g.es.length cap, .slice la ls.length lcap] 40)) #[.int .i64 g.n, .slice a' g.es.length cap', .slice la' ls.length lcap'] 40
  rw [World.size_alloc] at hBb
  have hB := hid hBb
  have HB0 := hid (((Below.refl w.heap.size w).alloc (Nat.le_refl _) (.cells #[.int .i64 g.n, .slice a g.es.length cap, .slice la ls.length lcap] 40)).alloc (by simp) (.cells #[.int .i64 g.n, .slice a' g.es.length cap', .slice la' ls.length lcap'] 40))
  clear hBb
  have q2 : ((ls.length : Int) != (ls.length : Int)) = false := by simp
  go_enter Tryz.func24, Tryz.ntmps24
  go_upto_region 1 with fail
  (try dsimp only)
  generalize (w.alloc (.cells #[.int .i64 g.n, .slice a g.es.length cap, .slice la ls.length lcap] 40)).alloc (.cells #[.int .i64 g.n, .slice a' g.es.length cap', .slice la' ls.length lcap'] 40) = W0 at *
  have a0 : W0.cell? ⟨w.heap.size, 0, none⟩ = some (.int .i64 g.n) := (hA.out.cell 0).trans rfl
  have a1 : W0.cell? ⟨w.heap.size, 1, none⟩ = some (.slice a g.es.length cap) := (hA.out.cell 1).trans rfl
  have b0 : W0.cell? ⟨w.heap.size + 1, 0, none⟩ = some (.int .i64 g.n) := (hB.out.cell 0).trans rfl
  have b1 : W0.cell? ⟨w.heap.size + 1, 1, none⟩ = some (.slice a' g.es.length cap') := (hB.out.cell 1).trans rfl
  have al := hA.out.lt
  have bl := hB.out.lt
  have HGa : Hid (GrR W0 (.agg #[.int .i64 g.n, .slice a g.es.length cap]) g) := ⟨_, rfl, HE.out.below HB0.out⟩
  have HGb : Hid (GrR W0 (.agg #[.int .i64 g.n, .slice a' g.es.length cap']) g) := ⟨_, rfl, HE'.out.below HB0.out⟩
  have HL0 := hid (HL.out.below HB0.out)
  have HL0' := hid (HL'.out.below HB0.out)
  go_wp2_with fail
  refine (q_Same g _ _ W0 HGa.out HGb.out).mono ?_
  rintro e w1 ⟨rfl, hB1⟩
  have HB1 := hid hB1
  clear hB1 a0 a1 b0 b1 al bl
  have a2 : w1.cell? ⟨w.heap.size, 2, none⟩ = some (.slice la ls.length lcap) := ((hA.out.below HB1.out).cell 2).trans rfl
  have b2 : w1.cell? ⟨w.heap.size + 1, 2, none⟩ = some (.slice la' ls.length lcap') := ((hB.out.below HB1.out).cell 2).trans rfl
  have al := (hA.out.below HB1.out).lt
  have bl := (hB.out.below HB1.out).lt
  dsimp only
  go_wp2_with fail
  clear a2 b2 al bl
  go_loopw [5] (fun i wr => ∃ k : Nat, k ≤ ls.length ∧ i = .int .i64 k ∧ Hid (Below W0.heap.size W0 wr)) (fun i _ => ls.length - (intOf i).toNat)
  case atStart => exact ⟨0, Nat.zero_le _, rfl, HB1⟩
  case round =>
    clear HB1
    obtain ⟨k, hkn, rfl, HBr⟩ := hrel
    obtain ⟨W1, rfl⟩ : ∃ W : World, W = wr := ⟨_, rfl⟩
    have a2 : W1.cell? ⟨w.heap.size, 2, none⟩ = some (.slice la ls.length lcap) := ((hA.out.below HBr.out).cell 2).trans rfl
    have b2 : W1.cell? ⟨w.heap.size + 1, 2, none⟩ = some (.slice la' ls.length lcap') := ((hB.out.below HBr.out).cell 2).trans rfl
    have al := (hA.out.below HBr.out).lt
    have bl := (hB.out.below HBr.out).lt
    by_cases hlt : k < ls.length
    · have hlt' : (k : Int) < (ls.length : Int) := by omega
      have hk0 : (0 : Int) ≤ (k : Int) := by omega
      obtain ⟨b, off, lv, rfl, hb, c0, hI⟩ := (HL0.out.below HBr.out).at rfl k hlt
      obtain ⟨b', off', lv', rfl, hb', d0, hI'⟩ := (HL0'.out.below HBr.out).at rfl k hlt
      generalize ls[k]?.getD [] = l at *
      have HI := hid hI
      have HI' := hid hI'
      obtain ⟨xa, xc, rfl, _⟩ := hI
      obtain ⟨xa', xc', rfl, _⟩ := hI'
      have hcl : Hid (∀ W', Below W1.heap.size W1 W' → W'.cell? ⟨w.heap.size, 2, none⟩ = some (.slice (some ⟨b, off, none⟩) ls.length lcap) ∧ W'.cell? ⟨w.heap.size + 1, 2, none⟩ = some (.slice (some ⟨b', off', none⟩) ls.length lcap') ∧ W'.cell? ⟨b, off + k, none⟩ = some (.slice xa l.length xc) ∧ W'.cell? ⟨b', off' + k, none⟩ = some (.slice xa' l.length xc')) := fun W' hB =>
        ⟨(hB.cell (p := ⟨w.heap.size, 2, none⟩) al).trans a2, (hB.cell (p := ⟨w.heap.size + 1, 2, none⟩) bl).trans b2, (hB.cell (p := ⟨b, off + k, none⟩) hb).trans c0, (hB.cell (p := ⟨b', off' + k, none⟩) hb').trans d0⟩
      go_upto_region 6 with fail
      clear a2 b2 c0 d0
      let S : World → Prop := fun W' => Hid (Below W1.heap.size W1 W')
      (refine wp_region_text 11 [0,1,2,3,4,5,6,7,8,9,10] S (by kernel_rfl) (by kernel_rfl) (by intro _ _ d _ _ h; cases d <;> exact h) ?hS ?_; rotate_left; simp only [List.map_cons, List.map_nil, List.getD_cons_zero, List.getD_cons_succ, List.drop_succ_cons, List.drop_zero])
      case hS => exact Below.drew (Below.refl _ _)
      (repeat ((refine' wpSeq_take rfl _ (by rfl) ?_ ?_; rotate_left; focus (intro w' hS; (try dsimp only at hS); obtain ⟨s0, s1, s2, s3⟩ := hcl.out _ hS.out; go_simp; (first | done | with_reducible rfl)); (try simp only [Act.put, List.setIfInBounds_toArray, List.set_cons_zero, List.set_cons_succ])); (try simp only [Act.put, List.setIfInBounds_toArray, List.set_cons_zero, List.set_cons_succ])))
      (refine wpSeq_call rfl (by rfl) (fun K hK => ?_); go_simp; refine ((q_SameInts l _ _ _ (HI.out.below (Below.drew (Below.refl _ _))) (HI'.out.below (Below.drew (Below.refl _ _))))).mono ?_; rintro e w5 ⟨rfl, hB5⟩; refine hK _ _ (((Below.drew (Below.refl W1.heap.size W1)).trans hB5)) ?_; clear hK K; (try simp only [Act.put, List.setIfInBounds_toArray, List.set_cons_zero, List.set_cons_succ]))
      have HB5 := hid (up HBr.out ((Below.drew (Below.refl W1.heap.size W1)).trans hB5))
      clear hB5
      refine wpSeq_nil ?_
      clear S
      go_wp2_with fail
      exact ⟨⟨k + 1, by omega, by go_num, HB5⟩, by simp [intOf]; omega⟩
    · obtain rfl : k = ls.length := by omega
      have hlt' : ¬ (ls.length : Int) < (ls.length : Int) := by omega
      go_wp2_with fail
      go_ret
      exact ⟨rfl, up HB0.out HBr.out⟩

/-- Whether a ribbon graph is small: then it is. -/
def RetFR (w : World) (ls : List (List Int)) (e : Ending) (w' : World) : Prop :=
  ∃ b, e = .returned (.bool b) ∧ (b = true → ls.length ≤ 20 ∧ ∀ j : Nat, (ls[j]?.getD []).length ≤ 2000) ∧ Below w.heap.size w w'
set_option maxRecDepth 100000 in
set_option maxHeartbeats 4000000 in
theorem q_FewRibbon (g : G) (ls : List (List Int)) (rv : Value) (w : World) (hr : RibR w rv (g, ls)) : Calls Tryz.prog 19 #[rv] w (RetFR w ls) := by
  obtain ⟨ev, lv, rfl, hE0, hL⟩ := hr
  have HE := hid hE0
  have HL := hid hL
  obtain ⟨ea, ecap, rfl, _⟩ := hE0
  obtain ⟨la, lcap, _, rfl, hcap, hcm, _⟩ := hL
  dsimp only at hcap hcm HE HL
  have hgb := hid (Blk.new w #[.int .i64 g.n, .slice ea g.es.length ecap, .slice la ls.length lcap] 40)
  have HB0 := hid ((Below.refl w.heap.size w).alloc (Nat.le_refl _) (.cells #[.int .i64 g.n, .slice ea g.es.length ecap, .slice la ls.length lcap] 40))
  have HG0 : Hid (GrR (w.alloc (.cells #[.int .i64 g.n, .slice ea g.es.length ecap, .slice la ls.length lcap] 40)) (.agg #[.int .i64 g.n, .slice ea g.es.length ecap]) g) := ⟨_, rfl, HE.out.below HB0.out⟩
  have HL0 := hid (HL.out.below HB0.out)
  clear HE HL
  go_enter Tryz.func19, Tryz.ntmps19
  go_upto_region 1 with fail
  (try dsimp only)
  generalize w.alloc (.cells #[.int .i64 g.n, .slice ea g.es.length ecap, .slice la ls.length lcap] 40) = W0 at *
  have c0 : W0.cell? ⟨w.heap.size, 0, none⟩ = some (.int .i64 g.n) := (hgb.out.cell 0).trans rfl
  have c1 : W0.cell? ⟨w.heap.size, 1, none⟩ = some (.slice ea g.es.length ecap) := (hgb.out.cell 1).trans rfl
  have hgl := hgb.out.lt
  go_wp2_with fail
  refine (r9_FewGraph g _ W0 HG0.out).mono ?_
  rintro e w1 ⟨rfl, hB1⟩
  have HB1 := hid hB1
  have hgb1 := hid (hgb.out.below hB1)
  clear c0 c1 hgl hB1
  dsimp only
  cases decide (g.es.length ≤ 100) with
  | false =>
    go_wp2_with fail
    go_ret
    exact ⟨_, rfl, (fun h => by cases h), up HB0.out HB1.out⟩
  | true =>
    have c2 : w1.cell? ⟨w.heap.size, 2, none⟩ = some (.slice la ls.length lcap) := (hgb1.out.cell 2).trans rfl
    have hgl := hgb1.out.lt
    by_cases h20 : 20 < ls.length
    · have h20' : (20 : Int) < (ls.length : Int) := by omega
      go_wp2_with fail
      go_ret
      exact ⟨_, rfl, (fun h => by cases h), up HB0.out HB1.out⟩
    have h20' : ¬ (20 : Int) < (ls.length : Int) := by omega
    go_wp2_with fail
    have H20 : Hid (ls.length ≤ 20) := by show _ ≤ _; omega
    clear c2 hgl h20 h20'
    go_loopw [3] (fun i wr => ∃ k : Nat, k ≤ ls.length ∧ i = .int .i64 k ∧ Hid (∀ j : Nat, j < k → (ls[j]?.getD []).length ≤ 2000) ∧ Hid (Below W0.heap.size W0 wr)) (fun i _ => ls.length - (intOf i).toNat)
    case atStart => exact ⟨0, Nat.zero_le _, rfl, (fun j hj => by omega), HB1⟩
    case round =>
      clear HB1
      obtain ⟨k, hkn, rfl, HJ, HBr⟩ := hrel
      obtain ⟨W1, rfl⟩ : ∃ W : World, W = wr := ⟨_, rfl⟩
      have c2 : W1.cell? ⟨w.heap.size, 2, none⟩ = some (.slice la ls.length lcap) := ((hgb.out.below HBr.out).cell 2).trans rfl
      have hgl := (hgb.out.below HBr.out).lt
      by_cases hlt : k < ls.length
      · have hlt' : (k : Int) < (ls.length : Int) := by omega
        have hk0 : (0 : Int) ≤ (k : Int) := by omega
        obtain ⟨b, off, lv, rfl, hb, d0, hI⟩ := (HL0.out.below HBr.out).at rfl k hlt
        have HJ2 : Hid ((ls[k]?.getD []).length ≤ 2000 → ∀ j : Nat, j < k + 1 → (ls[j]?.getD []).length ≤ 2000) := fun h j hj => by
          by_cases hjk : j = k
          · subst hjk; exact h
          · exact HJ.out j (by omega)
        generalize ls[k]?.getD [] = l at *
        obtain ⟨xa, xc, rfl, _⟩ := hI
        by_cases hbig : 2000 < l.length
        · have hbig' : (2000 : Int) < (l.length : Int) := by omega
          go_wp2_with fail
          go_ret
          exact ⟨_, rfl, (fun h => by cases h), up HB0.out HBr.out⟩
        have hbig' : ¬ (2000 : Int) < (l.length : Int) := by omega
        go_wp2_with fail
        exact ⟨⟨k + 1, by omega, by go_num, HJ2.out (by omega), HBr⟩, by simp [intOf]; omega⟩
      · obtain rfl : k = ls.length := by omega
        have hlt' : ¬ (ls.length : Int) < (ls.length : Int) := by omega
        go_wp2_with fail
        go_ret
        refine ⟨_, rfl, fun _ => ⟨H20.out, fun j => ?_⟩, up HB0.out HBr.out⟩
        by_cases hj : j < ls.length
        · exact HJ.out j hj
        · rw [List.getElem?_eq_none (by omega)]; simp

set_option maxRecDepth 100000 in
set_option maxHeartbeats 8000000 in
theorem l_Ribbons (z : G × List (List Int)) (text : List UInt8) (rv : Value) (w : World) (hE : Env w) (hr : RibR w rv z) :
    Calls Tryz.prog 5 #[rv, .string (str text)] w fun e w' => e = .returned (.bool true) ∧ Below w.heap.size w w' := by
  obtain ⟨g, ls⟩ := z
  have HE := hid hE
  have HR := hid hr
  obtain ⟨ev, lv, rfl, hE0, hL⟩ := hr
  obtain ⟨ea, ecap, rfl, _⟩ := hE0
  obtain ⟨la, lcap, _, rfl, _, _, _⟩ := hL
  dsimp only at HR
  have hgb := hid (Blk.new w #[.int .i64 g.n, .slice ea g.es.length ecap, .slice la ls.length lcap] 40)
  have HB0 := hid ((Below.refl w.heap.size w).alloc (Nat.le_refl _) (.cells #[.int .i64 g.n, .slice ea g.es.length ecap, .slice la ls.length lcap] 40))
  have HGA : Hid (∀ W, Below w.heap.size w W → RibR W (.agg #[.int .i64 g.n, .slice ea g.es.length ecap, .slice la ls.length lcap]) (g, ls)) := fun W hB => HR.out.below hB
  clear hE HR
  go_enter Tryz.func5, Tryz.ntmps5
  go_upto_region 1 with fail
  (try dsimp only)
  generalize w.alloc (.cells #[.int .i64 g.n, .slice ea g.es.length ecap, .slice la ls.length lcap] 40) = W0 at *
  have hcl : Hid (∀ W', Below W0.heap.size W0 W' → W'.cell? ⟨w.heap.size, 0, none⟩ = some (.int .i64 g.n) ∧ W'.cell? ⟨w.heap.size, 1, none⟩ = some (.slice ea g.es.length ecap) ∧ W'.cell? ⟨w.heap.size, 2, none⟩ = some (.slice la ls.length lcap) ∧ w.heap.size < W'.heap.size) := fun W' hB =>
    ⟨((hgb.out.below hB).cell 0).trans rfl, ((hgb.out.below hB).cell 1).trans rfl, ((hgb.out.below hB).cell 2).trans rfl, (hgb.out.below hB).lt⟩
  obtain ⟨c0, c1, c2, hgl⟩ := hcl.out W0 (Below.refl _ _)
  go_wp2_with fail
  refine (q_FewRibbon g ls _ W0 (HGA.out _ HB0.out)).mono ?_
  rintro e w1 ⟨bf, rfl, hfew, hB⟩
  have HB1 := hid hB
  clear hB c0 c1 c2 hgl
  dsimp only
  cases bf with
  | false =>
    go_wp2_with fail
    refine (l_awake w1 (HE.out.below (up HB0.out HB1.out))).mono ?_
    rintro e w2 ⟨rfl, hB⟩
    dsimp only
    go_wp2_with fail
    go_ret
    exact ⟨rfl, up (up HB0.out HB1.out) hB⟩
  | true =>
    obtain ⟨hf1, hf2⟩ := hfew rfl
    go_wp2_with fail
    refine (r9_FewText0 text w1).mono ?_
    rintro e w2 ⟨bt, rfl, hw2⟩
    subst hw2
    dsimp only
    cases bt with
    | false =>
      go_wp2_with fail
      refine (l_awake w1 (HE.out.below (up HB0.out HB1.out))).mono ?_
      rintro e w2 ⟨rfl, hB⟩
      dsimp only
      go_wp2_with fail
      go_ret
      exact ⟨rfl, up (up HB0.out HB1.out) hB⟩
    | true =>
      have HN := hid (fun w hE h => n_Ribbon g ls (.agg #[.int .i64 g.n, .slice ea g.es.length ecap, .slice la ls.length lcap]) w hE h (by omega) (fun j => by have := hf2 j; omega))
      have HR := hid (fun w h => q_Ribbon g ls (.agg #[.int .i64 g.n, .slice ea g.es.length ecap, .slice la ls.length lcap]) w h (by omega) (fun j => by have := hf2 j; omega))
      clear hf1 hf2 hfew
      generalize ribR g ls = z at *
      obtain ⟨z1, z2⟩ := z
      unfold limV at HN HR
      dsimp only at HN HR
      obtain ⟨c0, c1, c2, hgl⟩ := hcl.out w1 HB1.out
      go_wp2_with fail
      refine (HN.out w1 (HE.out.below (up HB0.out HB1.out)) (HGA.out _ (up HB0.out HB1.out))).mono ?_
      rintro e w2 ⟨rfl, hB⟩
      have HB2 := hid (up HB1.out hB)
      clear hB HB1 HN c0 c1 c2 hgl
      obtain ⟨c0, c1, c2, hgl⟩ := hcl.out w2 HB2.out
      dsimp only
      go_wp2_with fail
      refine (HR.out w2 (HGA.out _ (up HB0.out HB2.out))).mono ?_
      rintro e w3 ⟨rfl, hB⟩
      have HB5 := hid (up HB2.out hB)
      clear hB HB2 HR c0 c1 c2 hgl
      obtain ⟨w5, rfl⟩ : ∃ W : World, W = w3 := ⟨_, rfl⟩
      have q1 : ((str z2).toList == (str z2).toList) = true := beq_self_eq_true _
      have q2 : (z1 != z1) = false := by simp
      have HN := hid (fun w h => n_ReadRibbon text w h)
      have HR := hid (fun w => q_ReadRibbon text w)
      generalize ribP (opened (scanR text)) = zz at *
      dsimp only
      go_wp2_with fail
      refine (HN.out w5 (HE.out.below (up HB0.out HB5.out))).mono ?_
      rintro e w6 ⟨gv, rfl, hg, hB⟩
      obtain ⟨⟨g2, ls2⟩, y3, y4⟩ := zz
      have HGq := hid hg
      obtain ⟨ev, lv, rfl, ⟨a2, cap2, rfl, _⟩, ⟨la2, lcap2, _, rfl, _⟩⟩ := hg
      have hst := (Below.refl w6.heap.size w6).alloc (Nat.le_refl _) (.cells #[.int .i64 g2.n, .slice a2 g2.es.length cap2, .slice la2 ls2.length lcap2] 40)
      have HG1 := hid (HGq.out.below hst)
      have HX1 := hid (Blk.new w6 #[.int .i64 g2.n, .slice a2 g2.es.length cap2, .slice la2 ls2.length lcap2] 40)
      have HB6 := hid (up (up HB5.out hB) hst)
      clear hB HGq HN hst HB5 q1 q2
      dsimp only
      go_upto_region 8 with fail
      generalize w6.alloc (.cells #[.int .i64 g2.n, .slice a2 g2.es.length cap2, .slice la2 ls2.length lcap2] 40) = W2 at *
      generalize w6.heap.size = X1 at *
      go_wp2_with fail
      refine (HR.out W2).mono ?_
      rintro e w7 ⟨gv', rfl, hg', hB⟩
      have HG2 := hid hg'
      obtain ⟨ev', lv', rfl, ⟨a', cap', rfl, _⟩, ⟨la', lcap', _, rfl, _⟩⟩ := hg'
      have hst := (Below.refl w7.heap.size w7).alloc (Nat.le_refl _) (.cells #[.int .i64 g2.n, .slice a' g2.es.length cap', .slice la' ls2.length lcap'] 40)
      have HGa := hid ((HG1.out.below hB).below hst)
      have HGb := hid (HG2.out.below hst)
      have HXa := hid ((HX1.out.below hB).below hst)
      have HXb := hid (Blk.new w7 #[.int .i64 g2.n, .slice a' g2.es.length cap', .slice la' ls2.length lcap'] 40)
      have HB7 := hid (up (up HB6.out hB) hst)
      clear hB hst HG1 HX1 HB6 HR HG2
      dsimp only at HGa HGb
      dsimp only
      go_upto_region 9 with fail
      generalize w7.alloc (.cells #[.int .i64 g2.n, .slice a' g2.es.length cap', .slice la' ls2.length lcap'] 40) = W3 at *
      generalize w7.heap.size = X2 at *
      have a0 : W3.cell? ⟨X1, 0, none⟩ = some (.int .i64 g2.n) := (HXa.out.cell 0).trans rfl
      have a1 : W3.cell? ⟨X1, 1, none⟩ = some (.slice a2 g2.es.length cap2) := (HXa.out.cell 1).trans rfl
      have a2' : W3.cell? ⟨X1, 2, none⟩ = some (.slice la2 ls2.length lcap2) := (HXa.out.cell 2).trans rfl
      have b0 : W3.cell? ⟨X2, 0, none⟩ = some (.int .i64 g2.n) := (HXb.out.cell 0).trans rfl
      have b1 : W3.cell? ⟨X2, 1, none⟩ = some (.slice a' g2.es.length cap') := (HXb.out.cell 1).trans rfl
      have b2 : W3.cell? ⟨X2, 2, none⟩ = some (.slice la' ls2.length lcap') := (HXb.out.cell 2).trans rfl
      have al := HXa.out.lt
      have bl := HXb.out.lt
      have p1 : (y3 == y3) = true := by simp
      have p2 : (y4 == y4) = true := by simp
      go_wp2_with fail
      refine (q_SameRib g2 ls2 _ _ W3 HGa.out HGb.out).mono ?_
      rintro e w8 ⟨rfl, hB⟩
      have HB8 := hid (up HB7.out hB)
      clear hB
      dsimp only
      go_wp2_with fail
      refine (l_awake w8 (HE.out.below (up HB0.out HB8.out))).mono ?_
      rintro e w9 ⟨rfl, hB⟩
      dsimp only
      go_wp2_with fail
      go_ret
      exact ⟨rfl, up (up HB0.out HB8.out) hB⟩

end Go.Proofs.YtemmepgfngkgmaaGreatDoor
