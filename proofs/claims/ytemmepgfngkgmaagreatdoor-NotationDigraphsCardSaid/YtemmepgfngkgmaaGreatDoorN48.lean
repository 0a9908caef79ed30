/-
  Reading of an argument: a digraph. The walk of NotationDigraphs.
-/
import Derived.Test.YtemmepgfngkgmaaGreatDoorN47
import Derived.Test.YtemmepgfngkgmaaGreatDoorN42
namespace Go.Proofs.YtemmepgfngkgmaaGreatDoor
open Go.ChangeShapes Go.WideShapes Go.ChangeAt Go.RowKit Go.Deep Go.Joins
set_option linter.unusedVariables false
set_option linter.unusedSimpArgs false

theorem cells_Arc : Tryz.prog.cellsOf 147 = 3 := by kernel_rfl
theorem cells_Digraph : Tryz.prog.cellsOf 61 = 2 := by kernel_rfl
theorem bytes_Arc : Tryz.prog.bytesOf 147 = 24 := by kernel_rfl
theorem struct_arc : ∃ f0 f1 f2 : Field, Tryz.prog.underlying 147 = some (.struct #[f0, f1, f2]) ∧ f0.type = 3 ∧ f1.type = 3 ∧ f2.type = 3 ∧ f0.offset = 0 ∧ f1.offset = 1 ∧ f2.offset = 2 :=
  ⟨_, _, _, Tryz.underlying147, rfl, rfl, rfl, rfl, rfl, rfl⟩

theorem struct_digraph : ∃ f0 f1 : Field, Tryz.prog.underlying 61 = some (.struct #[f0, f1]) ∧ f0.type = 3 ∧ f1.type = 59 ∧ oneCellFields Tryz.prog #[f0, f1] = true :=
  ⟨_, _, Tryz.underlying61, rfl, rfl, by kernel_rfl⟩

section
variable {H : Type} {enc : TypeId × Value → H} {W : World} {base : Nat} {held : Bool}

set_option maxRecDepth 100000 in
theorem reads_arcs {fuel : Nat} {v : Value} {y : DataW H × List MemPlace} (h : DataW.trod enc Tryz.prog W base (fun _ => true) held fuel 59 [v] = some y)
    (hs : (y.1.weights Tryz.prog 59).all (· ≤ reachBytes) = true) : ∃ es, EdgesR W v es := by
  rcases open_slice und_arcs h with ⟨hcs, rfl⟩ | ⟨a, len, cap, m, n, D, Pl, hcs, _, hl, hm, hmm, rfl, hx⟩
  · simp at hcs
    subst hcs
    exact ⟨[], none, 0, rfl, Nat.le_refl _, by omega, by decide, .inl rfl⟩
  · simp at hcs
    subst hcs
    simp only [if_true] at hmm
    subst hmm
    obtain ⟨f0, f1, f2, hu, t0, t1, t2, o0, o1, o2⟩ := struct_arc
    have each : ∀ i, i < m → ∃ x : E, ∀ j, j < 3 → W.cell? (a.add (i * 3 + j)) = x.cells[j]? := by
      intro i hi
      obtain ⟨cs', h1, h2⟩ := hx i hi
      rw [cells_Arc] at h1
      obtain ⟨_, hlen, hcell⟩ := World.cells?_some h1
      obtain ⟨xs, k, _, _, _, hxl, hf⟩ := DataW.trod_struct hu h2
      obtain ⟨y0, y1, y2, rfl⟩ := list3 hxl
      obtain ⟨v0, v1, v2, rfl⟩ := list3 hlen
      focus
        have g0 := hf 0 f0 rfl
        have g1 := hf 1 f1 rfl
        have g2 := hf 2 f2 rfl
        simp [o0, o1, o2, t0, t1, t2, cells_int] at g0 g1 g2
        obtain ⟨n0, e0, _⟩ := DataW.trod_int und_int g0
        obtain ⟨n1, e1, _⟩ := DataW.trod_int und_int g1
        obtain ⟨n2, e2, _⟩ := DataW.trod_int und_int g2
        simp at e0 e1 e2
        subst e0 e1 e2
        refine ⟨⟨n0, n1, n2⟩, fun j hj => ?_⟩
        rw [← add_add, hcell j hj]
        rfl
    obtain ⟨q, hq⟩ := choose_lt (α := E) each
    refine ⟨(List.range len).map q, some a, m, by simp, by simpa using hl, by unfold maxLen at hm; omega, ?_, ?_⟩
    · have hw : (len + (m - len)) * 24 ≤ reachBytes := by
        have := List.all_eq_true.1 hs ((len + (m - len)) * 24) (by simp [DataW.weights, bytes_Arc])
        simpa using this
      have := reachBytes_lt
      simp
      omega
    · refine cellsAt_of W a len 3 _ (by decide) ?_ fun i hi j hj => ?_
      · have : ∀ l : List Nat, ((l.map q).flatMap E.cells).length = l.length * 3 := by
          intro l; induction l with
          | nil => rfl
          | cons x l ih => simp only [List.map_cons, List.flatMap_cons, List.length_append, ih, List.length_cons]; simp [E.cells]; omega
        rw [this]; simp
      · rw [hq i (by omega) j hj, flat_get _ i (by simpa using hi) j hj]
        simp [hi]

set_option maxRecDepth 100000 in
theorem reads_digraph {r : Reach} {b0 : Nat} {v : Value} {d : DataW H} {p : List MemPlace} (hv : Value.okWide Tryz.prog W r b0 61 v) (h : DataW.Trod enc Tryz.prog W base (fun _ => true) held 61 v d p)
    (hs : (d.weights Tryz.prog 61).all (· ≤ reachBytes) = true) : ∃ g, GrR W v g := by
  obtain ⟨f0, f1, hu, t0, t1, hone⟩ := struct_digraph
  obtain ⟨v0, v1, y0, y1, n, rfl, rfl, rfl, h0, h1⟩ := open_agg2 hu hone cells_Digraph hv h
  rw [t0] at h0
  rw [t1] at h1
  obtain ⟨z, e0, _⟩ := DataW.trod_int und_int h0
  simp at e0
  subst e0
  have hs1 : (y1.1.weights Tryz.prog 59).all (· ≤ reachBytes) = true := by
    rw [List.all_eq_true] at hs ⊢
    intro k hk
    refine hs k ?_
    simp only [DataW.weights, hu, List.map_cons, List.map_nil, DataW.weightsEach, t1, List.mem_append]
    exact .inr (.inl hk)
  obtain ⟨es, hes⟩ := reads_arcs h1 hs1
  exact ⟨⟨z, es⟩, v1, rfl, hes⟩
end
end Go.Proofs.YtemmepgfngkgmaaGreatDoor
namespace Go.Proofs.YtemmepgfngkgmaaGreatDoor
open Go.RowKit
set_option maxRecDepth 100000 in
set_option maxHeartbeats 4000000 in
theorem q_SameD (g : G) (av bv : Value) (w : World) (ha : GrR w av g) (hb : GrR w bv g) :
    Calls Tryz.prog 37 #[av, bv] w fun e w' => e = .returned (.bool true) ∧ Below w.heap.size w w' := by
  obtain ⟨ev, rfl, hE⟩ := ha
  obtain ⟨ev', rfl, hE'⟩ := hb
  have HE := hid hE
  have HE' := hid hE'
  obtain ⟨a, cap, rfl, _⟩ := hE
  obtain ⟨a', cap', rfl, _⟩ := hE'
  have hA := hid ((Blk.new w #[.int .i64 g.n, .slice a g.es.length cap] 61).alloc (.cells #[.int .i64 g.n, .slice a' g.es.length cap'] 61))
  have hBb := Blk.new (w.alloc (.cells #[.int .i64 g.n, .slice a g.es.length cap] 61)) #[.int .i64 g.n, .slice a' g.es.length cap'] 61
  rw [World.size_alloc] at hBb
  have hB := hid hBb
  have HB0 := hid (((Below.refl w.heap.size w).alloc (Nat.le_refl _) (.cells #[.int .i64 g.n, .slice a g.es.length cap] 61)).alloc (by simp) (.cells #[.int .i64 g.n, .slice a' g.es.length cap'] 61))
  clear hBb
  have q1 : (g.n != g.n) = false := by simp
  have q2 : ((g.es.length : Int) != (g.es.length : Int)) = false := by simp
  go_enter Tryz.func37, Tryz.ntmps37
  go_upto_region 1 with fail
  generalize (w.alloc (.cells #[.int .i64 g.n, .slice a g.es.length cap] 61)).alloc (.cells #[.int .i64 g.n, .slice a' g.es.length cap'] 61) = W0 at *
  have a0 : W0.cell? ⟨w.heap.size, 0, none⟩ = some (.int .i64 g.n) := (hA.out.cell 0).trans rfl
  have a1 : W0.cell? ⟨w.heap.size, 1, none⟩ = some (.slice a g.es.length cap) := (hA.out.cell 1).trans rfl
  have b0 : W0.cell? ⟨w.heap.size + 1, 0, none⟩ = some (.int .i64 g.n) := (hB.out.cell 0).trans rfl
  have b1 : W0.cell? ⟨w.heap.size + 1, 1, none⟩ = some (.slice a' g.es.length cap') := (hB.out.cell 1).trans rfl
  have al := hA.out.lt
  have bl := hB.out.lt
  have HE0 := hid (HE.out.below HB0.out)
  have HE0' := hid (HE'.out.below HB0.out)
  go_wp2_with fail
  go_loopw [5] (fun i wr => ∃ k : Nat, k ≤ g.es.length ∧ i = .int .i64 k ∧ Hid (Below W0.heap.size W0 wr)) (fun i _ => g.es.length - (intOf i).toNat)
  case atStart => exact ⟨0, Nat.zero_le _, rfl, Below.refl _ _⟩
  case round =>
    obtain ⟨k, hkn, rfl, HBr⟩ := hrel
    have a1 : wr.cell? ⟨w.heap.size, 1, none⟩ = some (.slice a g.es.length cap) := ((hA.out.below HBr.out).cell 1).trans rfl
    have b1 : wr.cell? ⟨w.heap.size + 1, 1, none⟩ = some (.slice a' g.es.length cap') := ((hB.out.below HBr.out).cell 1).trans rfl
    have al := (hA.out.below HBr.out).lt
    have bl := (hB.out.below HBr.out).lt
    by_cases hlt : k < g.es.length
    · have hlt' : (k : Int) < (g.es.length : Int) := by omega
      have hk0 : (0 : Int) ≤ (k : Int) := by omega
      obtain ⟨x1, x2, ea, _, _, _, hc⟩ := HE0.out.below HBr.out
      injection ea with ea1 _ ea3
      subst ea1 ea3
      obtain ⟨b, off, rfl, hb, hc⟩ := hc.edge (by omega)
      obtain ⟨c0, c1, c2⟩ := hc k hlt
      obtain ⟨y1, y2, eb, _, _, _, hd⟩ := HE0'.out.below HBr.out
      injection eb with eb1 _ eb3
      subst eb1 eb3
      obtain ⟨b', off', rfl, hb', hd⟩ := hd.edge (by omega)
      obtain ⟨d0, d1, d2⟩ := hd k hlt
      clear hc hd
      generalize g.es[k]?.getD default = x at *
      obtain ⟨xa, xb, xm⟩ := x
      dsimp only at c0 c1 c2 d0 d1 d2
      have p1 : (xa == xa) = true := by simp
      have p2 : (xb == xb) = true := by simp
      have p3 : (xm == xm) = true := by simp
      go_wp2_with fail
      go_quiet (fail)
      go_wp2_with fail
      exact ⟨⟨k + 1, by omega, by go_num, below_dN HBr.out _⟩, by simp [intOf]; omega⟩
    · obtain rfl : k = g.es.length := by omega
      have hlt' : ¬ (g.es.length : Int) < (g.es.length : Int) := by omega
      go_wp2_with fail
      go_ret
      exact ⟨rfl, HB0.out.trans (HBr.out.mono HB0.out.size)⟩


theorem q_FewDigraph (g : G) (gv : Value) (w : World) (hg : GrR w gv g) :
    Calls Tryz.prog 30 #[gv] w fun e w' => e = .returned (.bool (decide (g.es.length ≤ 160))) ∧ Below w.heap.size w w' := by
  obtain ⟨ev, rfl, hE⟩ := hg
  obtain ⟨a, cap, rfl, _⟩ := hE
  by_cases h : g.es.length ≤ 160
  · have h' : (g.es.length : Int) ≤ 160 := by omega
    rw [decide_eq_true h]
    go_enter Tryz.func30, Tryz.ntmps30
    go_wp2_with fail
    go_ret
    exact ⟨rfl, by go_grown⟩
  · have h' : ¬ (g.es.length : Int) ≤ 160 := by omega
    rw [decide_eq_false h]
    go_enter Tryz.func30, Tryz.ntmps30
    go_wp2_with fail
    go_ret
    exact ⟨rfl, by go_grown⟩

set_option maxRecDepth 100000 in
set_option maxHeartbeats 8000000 in
theorem l_Digraphs (g : G) (text : List UInt8) (gv : Value) (w : World) (hE : Env w) (hg : GrR w gv g) :
    Calls Tryz.prog 7 #[gv, .string (str text)] w fun e w' => e = .returned (.bool true) ∧ Below w.heap.size w w' := by
  have HE := hid hE
  have HG := hid hg
  obtain ⟨ev, rfl, hEv⟩ := hg
  obtain ⟨a, cap, rfl, _⟩ := hEv
  have hgb := hid (Blk.new w #[.int .i64 g.n, .slice a g.es.length cap] 61)
  have HB0 := hid ((Below.refl w.heap.size w).alloc (Nat.le_refl _) (.cells #[.int .i64 g.n, .slice a g.es.length cap] 61))
  have HGA : Hid (∀ W, Below w.heap.size w W → GrR W (.agg #[.int .i64 g.n, .slice a g.es.length cap]) g) := fun W hB => HG.out.below hB
  clear hE
  go_enter Tryz.func7, Tryz.ntmps7
  go_upto_region 1 with fail
  generalize w.alloc (.cells #[.int .i64 g.n, .slice a g.es.length cap] 61) = W0 at *
  have hcl : Hid (∀ W', Below W0.heap.size W0 W' → W'.cell? ⟨w.heap.size, 0, none⟩ = some (.int .i64 g.n) ∧ W'.cell? ⟨w.heap.size, 1, none⟩ = some (.slice a g.es.length cap) ∧ w.heap.size < W'.heap.size) := fun W' hB =>
    ⟨((hgb.out.below hB).cell 0).trans rfl, ((hgb.out.below hB).cell 1).trans rfl, (hgb.out.below hB).lt⟩
  obtain ⟨c0, c1, hgl⟩ := hcl.out W0 (Below.refl _ _)
  go_wp2_with fail
  refine (q_FewDigraph g _ W0 (HGA.out _ HB0.out)).mono ?_
  rintro e w1 ⟨rfl, hB⟩
  have HB1 := hid hB
  clear hB c0 c1 hgl
  dsimp only
  by_cases hfew : g.es.length ≤ 160
  case neg =>
    rw [decide_eq_false hfew]
    go_wp2_with fail
    refine (l_awake w1 (HE.out.below (up HB0.out HB1.out))).mono ?_
    rintro e w2 ⟨rfl, hB⟩
    dsimp only
    go_wp2_with fail
    go_ret
    exact ⟨rfl, up (up HB0.out HB1.out) hB⟩
  rw [decide_eq_true hfew]
  go_wp2_with fail
  refine (r9_FewText0 text w1).mono ?_
  rintro e w2 ⟨bt, rfl, hw2⟩
  subst hw2
  dsimp only
  cases bt with
  | false =>
    go_wp2_with fail
    refine (l_awake w1 (HE.out.below (up HB0.out HB1.out))).mono ?_
    rintro e w2 ⟨rfl, hB⟩
    dsimp only
    go_wp2_with fail
    go_ret
    exact ⟨rfl, up (up HB0.out HB1.out) hB⟩
  | true =>
    have HN := hid (fun w h => n_Digraph g (.agg #[.int .i64 g.n, .slice a g.es.length cap]) w h)
    have HR := hid (fun w h => q_Digraph g (.agg #[.int .i64 g.n, .slice a g.es.length cap]) w h (by omega))
    have HCN := hid (fun w h => n_CheckD g (.agg #[.int .i64 g.n, .slice a g.es.length cap]) w h)
    have HCR := hid (fun w h => q_CheckD g (.agg #[.int .i64 g.n, .slice a g.es.length cap]) w h (by omega))
    generalize digraphR g = z at *
    generalize dgErr g = dz at *
    obtain ⟨z1, z2⟩ := z
    unfold limV at HN HR
    dsimp only at HN HR
    obtain ⟨c0, c1, hgl⟩ := hcl.out w1 HB1.out
    go_wp2_with fail
    refine (HN.out w1 (HGA.out _ (up HB0.out HB1.out))).mono ?_
    rintro e w2 ⟨rfl, hB⟩
    have HB2 := hid (up HB1.out hB)
    clear hB HB1 HN c0 c1 hgl
    obtain ⟨c0, c1, hgl⟩ := hcl.out w2 HB2.out
    dsimp only
    go_wp2_with fail
    refine (HR.out w2 (HGA.out _ (up HB0.out HB2.out))).mono ?_
    rintro e w3 ⟨rfl, hB⟩
    have HB3 := hid (up HB2.out hB)
    clear hB HB2 HR c0 c1 hgl
    have q1 : ((str z2).toList == (str z2).toList) = true := beq_self_eq_true _
    have q2 : (z1 != z1) = false := by simp
    have q3 : (dz != dz) = false := by simp
    dsimp only
    go_upto_region 5 with fail
    let S : World → Prop := fun W' => Hid (Below W0.heap.size W0 W')
    (refine wp_region_text 14 [0,1,2,3,4,5,6,7,8,9,11,10,12,13] S (by kernel_rfl) (by kernel_rfl) (by intro _ _ d _ _ h; cases d <;> exact h) ?hS ?_; rotate_left; simp only [List.map_cons, List.map_nil, List.getD_cons_zero, List.getD_cons_succ, List.drop_succ_cons, List.drop_zero])
    case hS => exact Below.drew HB3.out
    (repeat ((refine' wpSeq_take rfl _ (by rfl) ?_ ?_; rotate_left; focus (intro w' hS; (try dsimp only at hS); obtain ⟨s1, s2, s3⟩ := hcl.out _ hS.out; go_simp; (first | done | with_reducible rfl)); (try simp only [Act.put, List.setIfInBounds_toArray, List.set_cons_zero, List.set_cons_succ])); (try simp only [Act.put, List.setIfInBounds_toArray, List.set_cons_zero, List.set_cons_succ])))
    (refine wpSeq_call rfl (by rfl) (fun K hK => ?_); go_simp; refine ((HCN.out _ (HGA.out _ (up HB0.out (Below.drew HB3.out))))).mono ?_; rintro e w4 ⟨rfl, hB4⟩; refine hK _ _ ((up (Below.drew HB3.out) hB4)) ?_; clear hK K; (try simp only [Act.put, List.setIfInBounds_toArray, List.set_cons_zero, List.set_cons_succ]))
    have HB4 := hid (up (Below.drew HB3.out) hB4)
    clear hB4
    (refine wpSeq_call rfl (by rfl) (fun K hK => ?_); go_simp; refine ((HCR.out _ (HGA.out _ (up HB0.out HB4.out)))).mono ?_; rintro e w5 ⟨rfl, hB5⟩; refine hK _ _ ((up HB4.out hB5)) ?_; clear hK K; (try simp only [Act.put, List.setIfInBounds_toArray, List.set_cons_zero, List.set_cons_succ]))
    have HB5 := hid (up HB4.out hB5)
    clear hB5 HB4 HB3
    (repeat ((refine' wpSeq_take rfl _ (by rfl) ?_ ?_; rotate_left; focus (intro w' hS; (try dsimp only at hS); have s1 := hS; go_simp; (first | done | with_reducible rfl)); (try simp only [Act.put, List.setIfInBounds_toArray, List.set_cons_zero, List.set_cons_succ])); (try simp only [Act.put, List.setIfInBounds_toArray, List.set_cons_zero, List.set_cons_succ])))
    refine wpSeq_nil ?_
    clear S q1 q2 HCN HCR
    have HN := hid (fun w h => n_ReadDigraph text w h)
    have HR := hid (fun w => q_ReadDigraph text w)
    generalize tableP wDigraph 62 false (opened (scanR text)) = zz at *
    go_wp2_with fail
    refine (HN.out w5 (HE.out.below (up HB0.out HB5.out))).mono ?_
    rintro e w6 ⟨gv, rfl, hg, hB⟩
    obtain ⟨g2, y3, y4⟩ := zz
    have HGq := hid hg
    obtain ⟨ev, rfl, a2, cap2, rfl, _⟩ := hg
    have hst := (Below.refl w6.heap.size w6).alloc (Nat.le_refl _) (.cells #[.int .i64 g2.n, .slice a2 g2.es.length cap2] 61)
    have HG1 := hid (HGq.out.below hst)
    have HX1 := hid (Blk.new w6 #[.int .i64 g2.n, .slice a2 g2.es.length cap2] 61)
    have HB6 := hid (up (up HB5.out hB) hst)
    clear hB HGq HN hst HB5 q3
    dsimp only
    go_upto_region 8 with fail
    generalize w6.alloc (.cells #[.int .i64 g2.n, .slice a2 g2.es.length cap2] 61) = W2 at *
    generalize w6.heap.size = X1 at *
    go_wp2_with fail
    refine (HR.out W2).mono ?_
    rintro e w7 ⟨gv', rfl, hg', hB⟩
    have HG2 := hid hg'
    obtain ⟨ev', rfl, a', cap', rfl, _⟩ := hg'
    have hst := (Below.refl w7.heap.size w7).alloc (Nat.le_refl _) (.cells #[.int .i64 g2.n, .slice a' g2.es.length cap'] 61)
    have HGa := hid ((HG1.out.below hB).below hst)
    have HGb := hid (HG2.out.below hst)
    have HXa := hid ((HX1.out.below hB).below hst)
    have HXb := hid (Blk.new w7 #[.int .i64 g2.n, .slice a' g2.es.length cap'] 61)
    have HB7 := hid (up (up HB6.out hB) hst)
    clear hB hst HG1 HX1 HB6 HR HG2
    dsimp only
    go_upto_region 9 with fail
    generalize w7.alloc (.cells #[.int .i64 g2.n, .slice a' g2.es.length cap'] 61) = W3 at *
    generalize w7.heap.size = X2 at *
    have a0 : W3.cell? ⟨X1, 0, none⟩ = some (.int .i64 g2.n) := (HXa.out.cell 0).trans rfl
    have a1 : W3.cell? ⟨X1, 1, none⟩ = some (.slice a2 g2.es.length cap2) := (HXa.out.cell 1).trans rfl
    have b0 : W3.cell? ⟨X2, 0, none⟩ = some (.int .i64 g2.n) := (HXb.out.cell 0).trans rfl
    have b1 : W3.cell? ⟨X2, 1, none⟩ = some (.slice a' g2.es.length cap') := (HXb.out.cell 1).trans rfl
    have al := HXa.out.lt
    have bl := HXb.out.lt
    have p1 : (y3 == y3) = true := by simp
    have p2 : (y4 == y4) = true := by simp
    go_wp2_with fail
    refine (q_SameD g2 _ _ W3 HGa.out HGb.out).mono ?_
    rintro e w8 ⟨rfl, hB⟩
    have HB8 := hid (up HB7.out hB)
    clear hB
    dsimp only
    go_wp2_with fail
    refine (l_awake w8 (HE.out.below (up HB0.out HB8.out))).mono ?_
    rintro e w9 ⟨rfl, hB⟩
    dsimp only
    go_wp2_with fail
    go_ret
    exact ⟨rfl, up (up HB0.out HB8.out) hB⟩

end Go.Proofs.YtemmepgfngkgmaaGreatDoor
