/-
  Reading of an argument: a digraph. SameDigraphs at equal digraphs, FewDigraph.
-/
import Derived.Test.YtemmepgfngkgmaaGreatDoorN55
namespace Go.Proofs.YtemmepgfngkgmaaGreatDoor
open Go.ChangeShapes Go.WideShapes Go.ChangeAt Go.RowKit Go.Deep Go.Joins
set_option linter.unusedVariables false
set_option linter.unusedSimpArgs false

theorem cells_Arc : Tryz.prog.cellsOf 147 = 3 := by kernel_rfl
theorem cells_Digraph : Tryz.prog.cellsOf 61 = 2 := by kernel_rfl
theorem bytes_Arc : Tryz.prog.bytesOf 147 = 24 := by kernel_rfl
theorem struct_arc : ∃ f0 f1 f2 : Field, Tryz.prog.underlying 147 = some (.struct #[f0, f1, f2]) ∧ f0.type = 3 ∧ f1.type = 3 ∧ f2.type = 3 ∧ f0.offset = 0 ∧ f1.offset = 1 ∧ f2.offset = 2 :=
  ⟨_, _, _, Tryz.underlying147, rfl, rfl, rfl, rfl, rfl, rfl⟩

theorem struct_digraph : ∃ f0 f1 : Field, Tryz.prog.underlying 61 = some (.struct #[f0, f1]) ∧ f0.type = 3 ∧ f1.type = 59 ∧ oneCellFields Tryz.prog #[f0, f1] = true :=
  ⟨_, _, Tryz.underlying61, rfl, rfl, by kernel_rfl⟩

section
variable {H : Type} {enc : TypeId × Value → H} {W : World} {base : Nat} {held : Bool}

set_option maxRecDepth 100000 in
theorem reads_arcs {fuel : Nat} {v : Value} {y : DataW H × List MemPlace} (h : DataW.trod enc Tryz.prog W base (fun _ => true) held fuel 59 [v] = some y)
    (hs : (y.1.weights Tryz.prog 59).all (· ≤ reachBytes) = true) : ∃ es, EdgesR W v es := by
  rcases open_slice und_arcs h with ⟨hcs, rfl⟩ | ⟨a, len, cap, m, n, D, Pl, hcs, _, hl, hm, hmm, rfl, hx⟩
  · simp at hcs
    subst hcs
    exact ⟨[], none, 0, rfl, Nat.le_refl _, by omega, by decide, .inl rfl⟩
  · simp at hcs
    subst hcs
    simp only [if_true] at hmm
    subst hmm
    obtain ⟨f0, f1, f2, hu, t0, t1, t2, o0, o1, o2⟩ := struct_arc
    have each : ∀ i, i < m → ∃ x : E, ∀ j, j < 3 → W.cell? (a.add (i * 3 + j)) = x.cells[j]? := by
      intro i hi
      obtain ⟨cs', h1, h2⟩ := hx i hi
      rw [cells_Arc] at h1
      obtain ⟨_, hlen, hcell⟩ := World.cells?_some h1
      obtain ⟨xs, k, _, _, _, hxl, hf⟩ := DataW.trod_struct hu h2
      obtain ⟨y0, y1, y2, rfl⟩ := list3 hxl
      obtain ⟨v0, v1, v2, rfl⟩ := list3 hlen
      focus
        have g0 := hf 0 f0 rfl
        have g1 := hf 1 f1 rfl
        have g2 := hf 2 f2 rfl
        simp [o0, o1, o2, t0, t1, t2, cells_int] at g0 g1 g2
        obtain ⟨n0, e0, _⟩ := DataW.trod_int und_int g0
        obtain ⟨n1, e1, _⟩ := DataW.trod_int und_int g1
        obtain ⟨n2, e2, _⟩ := DataW.trod_int und_int g2
        simp at e0 e1 e2
        subst e0 e1 e2
        refine ⟨⟨n0, n1, n2⟩, fun j hj => ?_⟩
        rw [← add_add, hcell j hj]
        rfl
    obtain ⟨q, hq⟩ := choose_lt (α := E) each
    refine ⟨(List.range len).map q, some a, m, by simp, by simpa using hl, by unfold maxLen at hm; omega, ?_, ?_⟩
    · have hw : (len + (m - len)) * 24 ≤ reachBytes := by
        have := List.all_eq_true.1 hs ((len + (m - len)) * 24) (by simp [DataW.weights, bytes_Arc])
        simpa using this
      have := reachBytes_lt
      simp
      omega
    · refine cellsAt_of W a len 3 _ (by decide) ?_ fun i hi j hj => ?_
      · have : ∀ l : List Nat, ((l.map q).flatMap E.cells).length = l.length * 3 := by
          intro l; induction l with
          | nil => rfl
          | cons x l ih => simp only [List.map_cons, List.flatMap_cons, List.length_append, ih, List.length_cons]; simp [E.cells]; omega
        rw [this]; simp
      · rw [hq i (by omega) j hj, flat_get _ i (by simpa using hi) j hj]
        simp [hi]

set_option maxRecDepth 100000 in
theorem reads_digraph {r : Reach} {b0 : Nat} {v : Value} {d : DataW H} {p : List MemPlace} (hv : Value.okWide Tryz.prog W r b0 61 v) (h : DataW.Trod enc Tryz.prog W base (fun _ => true) held 61 v d p)
    (hs : (d.weights Tryz.prog 61).all (· ≤ reachBytes) = true) : ∃ g, GrR W v g := by
  obtain ⟨f0, f1, hu, t0, t1, hone⟩ := struct_digraph
  obtain ⟨v0, v1, y0, y1, n, rfl, rfl, rfl, h0, h1⟩ := open_agg2 hu hone cells_Digraph hv h
  rw [t0] at h0
  rw [t1] at h1
  obtain ⟨z, e0, _⟩ := DataW.trod_int und_int h0
  simp at e0
  subst e0
  have hs1 : (y1.1.weights Tryz.prog 59).all (· ≤ reachBytes) = true := by
    rw [List.all_eq_true] at hs ⊢
    intro k hk
    refine hs k ?_
    simp only [DataW.weights, hu, List.map_cons, List.map_nil, DataW.weightsEach, t1, List.mem_append]
    exact .inr (.inl hk)
  obtain ⟨es, hes⟩ := reads_arcs h1 hs1
  exact ⟨⟨z, es⟩, v1, rfl, hes⟩
end
end Go.Proofs.YtemmepgfngkgmaaGreatDoor
namespace Go.Proofs.YtemmepgfngkgmaaGreatDoor
open Go.RowKit
set_option maxRecDepth 100000 in
set_option maxHeartbeats 4000000 in
theorem q_SameD (g : G) (av bv : Value) (w : World) (ha : GrR w av g) (hb : GrR w bv g) :
    Calls Tryz.prog 37 #[av, bv] w fun e w' => e = .returned (.bool true) ∧ Below w.heap.size w w' := by
  obtain ⟨ev, rfl, hE⟩ := ha
  obtain ⟨ev', rfl, hE'⟩ := hb
  have HE := hid hE
  have HE' := hid hE'
  obtain ⟨a, cap, rfl, _⟩ := hE
  obtain ⟨a', cap', rfl, _⟩ := hE'
  have hA := hid ((Blk.new w #[.int .i64 g.n, .slice a g.es.length cap] 61).alloc (.cells #[.int .i64 g.n, .slice a' g.es.length cap'] 61))
  have hBb := Blk.new (w.alloc (.cells #[.int .i64 g.n, .slice a g.es.length cap] 61)) #[.int .i64 g.n, .slice a' g.es.length cap'] 61
  rw [World.size_alloc] at hBb
  have hB := hid hBb
  have HB0 := hid (((Below.refl w.heap.size w).alloc (Nat.le_refl _) (.cells #[.int .i64 g.n, .slice a g.es.length cap] 61)).alloc (by simp) (.cells #[.int .i64 g.n, .slice a' g.es.length cap'] 61))
  clear hBb
  have q1 : (g.n != g.n) = false := by simp
  have q2 : ((g.es.length : Int) != (g.es.length : Int)) = false := by simp
  go_enter Tryz.func37, Tryz.ntmps37
  go_upto_region 1 with fail
  generalize (w.alloc (.cells #[.int .i64 g.n, .slice a g.es.length cap] 61)).alloc (.cells #[.int .i64 g.n, .slice a' g.es.length cap'] 61) = W0 at *
  have a0 : W0.cell? ⟨w.heap.size, 0, none⟩ = some (.int .i64 g.n) := (hA.out.cell 0).trans rfl
  have a1 : W0.cell? ⟨w.heap.size, 1, none⟩ = some (.slice a g.es.length cap) := (hA.out.cell 1).trans rfl
  have b0 : W0.cell? ⟨w.heap.size + 1, 0, none⟩ = some (.int .i64 g.n) := (hB.out.cell 0).trans rfl
  have b1 : W0.cell? ⟨w.heap.size + 1, 1, none⟩ = some (.slice a' g.es.length cap') := (hB.out.cell 1).trans rfl
  have al := hA.out.lt
  have bl := hB.out.lt
  have HE0 := hid (HE.out.below HB0.out)
  have HE0' := hid (HE'.out.below HB0.out)
  go_wp2_with fail
  go_loopw [5] (fun i wr => ∃ k : Nat, k ≤ g.es.length ∧ i = .int .i64 k ∧ Hid (Below W0.heap.size W0 wr)) (fun i _ => g.es.length - (intOf i).toNat)
  case atStart => exact ⟨0, Nat.zero_le _, rfl, Below.refl _ _⟩
  case round =>
    obtain ⟨k, hkn, rfl, HBr⟩ := hrel
    have a1 : wr.cell? ⟨w.heap.size, 1, none⟩ = some (.slice a g.es.length cap) := ((hA.out.below HBr.out).cell 1).trans rfl
    have b1 : wr.cell? ⟨w.heap.size + 1, 1, none⟩ = some (.slice a' g.es.length cap') := ((hB.out.below HBr.out).cell 1).trans rfl
    have al := (hA.out.below HBr.out).lt
    have bl := (hB.out.below HBr.out).lt
    by_cases hlt : k < g.es.length
    · have hlt' : (k : Int) < (g.es.length : Int) := by omega
      have hk0 : (0 : Int) ≤ (k : Int) := by omega
      obtain ⟨x1, x2, ea, _, _, _, hc⟩ := HE0.out.below HBr.out
      injection ea with ea1 _ ea3
      subst ea1 ea3
      obtain ⟨b, off, rfl, hb, hc⟩ := hc.edge (by omega)
      obtain ⟨c0, c1, c2⟩ := hc k hlt
      obtain ⟨y1, y2, eb, _, _, _, hd⟩ := HE0'.out.below HBr.out
      injection eb with eb1 _ eb3
      subst eb1 eb3
      obtain ⟨b', off', rfl, hb', hd⟩ := hd.edge (by omega)
      obtain ⟨d0, d1, d2⟩ := hd k hlt
      clear hc hd
      generalize g.es[k]?.getD default = x at *
      obtain ⟨xa, xb, xm⟩ := x
      dsimp only at c0 c1 c2 d0 d1 d2
      have p1 : (xa == xa) = true := by simp
      have p2 : (xb == xb) = true := by simp
      have p3 : (xm == xm) = true := by simp
      go_wp2_with fail
      go_quiet (fail)
      go_wp2_with fail
      exact ⟨⟨k + 1, by omega, by go_num, below_dN HBr.out _⟩, by simp [intOf]; omega⟩
    · obtain rfl : k = g.es.length := by omega
      have hlt' : ¬ (g.es.length : Int) < (g.es.length : Int) := by omega
      go_wp2_with fail
      go_ret
      exact ⟨rfl, HB0.out.trans (HBr.out.mono HB0.out.size)⟩


theorem q_FewDigraph (g : G) (gv : Value) (w : World) (hg : GrR w gv g) :
    Calls Tryz.prog 30 #[gv] w fun e w' => e = .returned (.bool (decide (g.es.length ≤ 160))) ∧ Below w.heap.size w w' := by
  obtain ⟨ev, rfl, hE⟩ := hg
  obtain ⟨a, cap, rfl, _⟩ := hE
  by_cases h : g.es.length ≤ 160
  · have h' : (g.es.length : Int) ≤ 160 := by omega
    rw [decide_eq_true h]
    go_enter Tryz.func30, Tryz.ntmps30
    go_wp2_with fail
    go_ret
    exact ⟨rfl, by go_grown⟩
  · have h' : ¬ (g.es.length : Int) ≤ 160 := by omega
    rw [decide_eq_false h]
    go_enter Tryz.func30, Tryz.ntmps30
    go_wp2_with fail
    go_ret
    exact ⟨rfl, by go_grown⟩

end Go.Proofs.YtemmepgfngkgmaaGreatDoor
