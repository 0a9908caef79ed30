/-
  Contract of the program's graph: Ends.
-/
import Derived.Test.YtlhbgainpeehoaaP30
import Derived.Test.YtlhbgainpeehoaaR21e
namespace Go.Proofs.Ytlhbgainpeehoaa
set_option linter.unusedVariables false
open Go.RowKit Go.Shelf
attribute [local go_sem] Oper.semAt_some

theorem Try.und22 : Try.prog.underlying 159 = some (.slice 162) := by kernel_rfl
theorem Try.info22 : (Try.prog.info? 162).map (fun i => (i.zero, i.size, i.bytes)) = some (some (.agg #[.int .i64 0, .int .i64 0]), 2, 16) := by kernel_rfl

theorem blk_own {β : Type} (B : Nat) (t : TypeId) (cs : β → Array Value) : Own (fun s W => Blk W B (cs s) t) := fun s X Y row hs hg hrow => by
  refine hs.grown hg (fun e => ?_)
  obtain ⟨o, ho, hc⟩ := hrow B e
  have h1 : X.heap[B]? = some (.cells (cs s) t (0, 0)) := hs
  rw [h1] at ho
  cases ho
  cases hc
theorem kpE_b {n₀ : Nat} (w0 : World) (hn : n₀ ≤ w0.heap.size) : ∀ (W : World) (l : Nat) (o o' : Obj), w0.heap.size ≤ l → W.heap[l]? = some o → o.isCells = false → o.isWalk = false → KpE n₀ W (W.putObj l o') := by
  intro W l o o' hl ho hc hw
  refine ⟨belowK_b (w := w0) hn W l o o' hl ho hc hw, fun b cs hb => ?_⟩
  refine hb.grown (grownBy_putObj' W l o') (fun e => ?_)
  obtain rfl : l = b := Option.some.inj e
  have h1 : W.heap[l]? = some (.cells cs 128 (0, 0)) := hb
  rw [h1] at ho
  cases ho
  cases hc
theorem pairs_snoc (pre : List (Nat × Int × Int)) (x : Nat × Int × Int) : pairCells ((pre ++ [x]).map (·.2)) = pairCells (pre.map (·.2)) ++ [.int .i64 x.2.1, .int .i64 x.2.2] := by simp [pairCells]
theorem sgl_map (es : List E) : (sglTo es (endsOf es).length).map (·.2) = endsOf es := by
  unfold sglTo
  rw [List.map_map]
  apply List.ext_getElem
  · simp
  · intro i h1 h2
    simp at h1
    simp [h1]
theorem news22 (W : World) (x y : Int) (e : TypeId) (j : Nat) (u : Value) (h : [Value.int .i64 x, Value.int .i64 y][j]? = some u) : (W.alloc (.cells #[.int .i64 x, .int .i64 y] e)).cell? ((⟨W.heap.size, 0, none⟩ : Addr).add j) = some u := by
  match j, h with
  | 0, h => simp at h; subst h; simp [Addr.add]
  | 1, h => simp at h; subst h; simp [Addr.add]
  | j + 2, h => simp at h

/-- The ends are handed back. -/
def RetEnds (T : TypeId) (w : World) (ps : List (Int × Int)) (e : Ending) (w' : World) : Prop :=
  ∃ v, e = .returned (.tuple #[v, .int .i64 0]) ∧ w'.ownsRow w.heap.size T 2 v ps.length (pairCells ps) ∧ Below w.heap.size w w'

set_option maxRecDepth 100000 in
set_option maxHeartbeats 4000000 in
theorem p_Ends (g : G) (gv : Value) (w : World) (hg : GrR w gv g) (hk : Gok g) :
    Calls Try.prog 109 #[gv] w (RetEnds 162 w (endsOf g.es)) := by
  have hg' := hg
  obtain ⟨ev, rfl, a, cap, rfl, hcap, hcm, hlen, hc⟩ := hg'
  obtain ⟨i0, hi, hz0, hz1, hz2⟩ := info_parts Try.info22
  refine (callsIn_wide (n := 5)).1 ?_
  have hW : Below w.heap.size w (w.alloc (.cells #[.int .i64 g.n, .slice a g.es.length cap] 24)) := by go_grown
  have hck := hid (p_Check g _ _ (hg.below hW))
  have hbk := hid hk
  rw [show checkErr g = 0 from hk] at hck
  have hro : Fence.wide.round = none := rfl
  refine callsIn_of_wp_marks Try.func109 rfl trivial ?_ hro
  simp only [Try.ntmps109, List.size_toArray, List.length_cons, List.length_nil, Nat.reduceAdd, Nat.reduceSub, Array.replicate_succ, Array.replicate_zero, List.push_toArray, List.append_toArray, List.nil_append, List.cons_append]
  gi_wp2_with (first
    | (refine ⟨trivial, ?_⟩; gi_at_call 59; refine (callsIn_wide.2 hck.out).mono ?_; rintro e w1 ⟨rfl, hB1⟩; obtain ⟨r1, r2⟩ := bcell hB1; have hs1 := hB1.size; (simp only [World.size_alloc] at hs1); have u1 : w.heap.size < w1.heap.size := (by omega))
    | (refine ⟨trivial, ?_⟩; gi_at_call 122; refine (singles_in Fence.wide 4 trivial hro _ _ _).mono ?_; rintro e w2 ⟨rfl, rfl⟩))
  have hBw1 : Below w.heap.size w w1 := up hW hB1
  have hBk := (Blk.new w #[.int .i64 g.n, .slice a g.es.length cap] 24).below hB1
  have bO := Boxed.new w1 159 (.slice none 0 0)
  have bG := Blk.new (w1.alloc (.cells #[.slice none 0 0] 159)) #[.int .i64 g.n, .slice a g.es.length cap] 24
  rw [World.size_alloc] at bG
  have hB2 : Below w.heap.size w ((w1.alloc (.cells #[.slice none 0 0] 159)).alloc (.cells #[.int .i64 g.n, .slice a g.es.length cap] 24)) := (hBw1.alloc hBw1.size _).alloc (by simp; omega) _
  obtain ⟨W0, hW0⟩ : ∃ W : World, W = ((w1.alloc (.cells #[.slice none 0 0] 159)).alloc (.cells #[.int .i64 g.n, .slice a g.es.length cap] 24)) := ⟨_, rfl⟩
  have hs0 : W0.heap.size = w1.heap.size + 2 := by rw [hW0]; simp
  rw [← hW0] at bG hB2 ⊢
  have bO2 : Boxed W0 w1.heap.size 159 (.slice none 0 0) := by rw [hW0]; exact bO.alloc _
  clear hW0
  have hm : ∀ k, k < g.es.length → 0 ≤ (g.es[k]?.getD default).m ∧ (g.es[k]?.getD default).m ≤ 1000000 := fun k h => by
    have := hbk.out.mem (x := g.es[k]?.getD default) (by rw [List.getElem?_eq_getElem h]; exact List.getElem_mem h)
    omega
  have hgl := hbk.out.len
  have htot : (endsOf g.es).length ≤ 7200 := by
    have := endsOf_len g.es 50 (fun y hy => by have := hbk.out.mem hy; omega)
    omega
  have hcE : ∀ k, k < g.es.length → ∃ b off, a = some ⟨b, off, none⟩ ∧ b < w.heap.size ∧ W0.cell? ⟨b, off + k * 3, none⟩ = some (.int .i64 (g.es[k]?.getD default).a) ∧
      W0.cell? ⟨b, off + k * 3 + 1, none⟩ = some (.int .i64 (g.es[k]?.getD default).b) ∧ W0.cell? ⟨b, off + k * 3 + 2, none⟩ = some (.int .i64 (g.es[k]?.getD default).m) := fun k h => by
    obtain ⟨b, off, h1, h2, h3⟩ := hc.edge (by omega)
    obtain ⟨c1, c2, c3⟩ := h3 k h
    exact ⟨b, off, h1, h2, (hB2.cell (p := ⟨b, off + k * 3, none⟩) h2).trans c1, (hB2.cell (p := ⟨b, off + k * 3 + 1, none⟩) h2).trans c2, (hB2.cell (p := ⟨b, off + k * 3 + 2, none⟩) h2).trans c3⟩
  have bG1 := bG.cell 1
  simp only [List.getElem?_toArray, List.getElem?_cons_zero, List.getElem?_cons_succ] at bG1
  refine wpIn_rangeFunc_ownH hro (by omega) (gf := 127) (lb := #[.pointer (some ⟨w1.heap.size + 1, 0, none⟩)]) rfl trivial (enters_of Try.func127 (by kernel_rfl) rfl)
    (singles_stops Fence.wide 4 trivial hro (by omega) (w1.heap.size + 1) w.heap.size cap a g.es hm (by omega) (by omega) W0 bG1 (by omega) hcE hB2.size) KpE.trans (kpE_b W0 hB2.size) (Below.refl _ _) (fun _ => rfl)
    (fun pre W => (∃ v, Boxed W w1.heap.size 159 v ∧ W.ownsRow w.heap.size 162 2 v pre.length (pairCells (pre.map (·.2))) ∧ True) ∧ Below w.heap.size w W)
    (fun _ _ _ => False)
    (OwnFrom.and (Own.from (holdsRow_own w.heap.size w1.heap.size 159 162 2 (fun pre : List (Nat × Int × Int) => pre.length) (fun pre => pairCells (pre.map (·.2))) (fun _ _ => True)) _) (ownFrom_below (Nat.le_refl _) hB2.size))
    (fun _ _ _ _ _ hs _ _ => hs)
    ⟨⟨_, bO2, World.ownsRow_nil _ _ _ _, trivial⟩, hB2⟩
    (fun x a' W => ∃ Bx, Bx ≠ w1.heap.size ∧ Blk W Bx #[.int .i64 x.2.1, .int .i64 x.2.2] 142 ∧ a' = { tmps := #[.agg #[.int .i64 g.n, .slice a g.es.length cap], .pointer (some ⟨w.heap.size, 0, none⟩), .slice none 0 0, .int .i64 0, .int .i64 0, .pointer (some ⟨w1.heap.size, 0, none⟩), undef, .pointer (some ⟨Bx, 0, none⟩),
      .agg #[.int .i64 g.n, .slice a g.es.length cap], .int .i64 0, .int .i64 0, .bool false, undef, .agg #[.int .i64 g.n, .slice a g.es.length cap], .func (.func 127) #[] #[.pointer (some ⟨w1.heap.size + 1, 0, none⟩)], .int .i64 (x.1 : Int), .agg #[.int .i64 x.2.1, .int .i64 x.2.2], undef, undef, undef, undef, undef, undef, undef, undef, undef], defers := [] })
    (fun x a' => by
      rintro s W W' row ⟨Bx, h1, h2, h3⟩ hg hr
      exact ⟨Bx, h1, (blk_own (β := Unit) Bx 142 (fun _ => #[.int .i64 x.2.1, .int .i64 x.2.2])) () W W' row h2 hg (fun r e => (hr r e).2), h3⟩) ?assign ?body ?done ?stop
  case assign =>
    rintro l pre x W K ⟨⟨v, hv, hrow, _⟩, hB⟩ hK
    have hlt := hv.lt
    gi_wp2
    exact hK _ _ ((KeepsOthers.alloc _ _).from _) ⟨(Below.refl _ W).alloc hB.size _, fun b cs hb => hb.alloc _⟩ ⟨⟨v, hv.alloc _, hrow.alloc _, trivial⟩, hB.alloc hB.size _⟩ ⟨W.heap.size, by omega, Blk.new _ _ _, rfl⟩
  case body =>
    rintro l pre x a' W hl ⟨r, hr⟩ ⟨⟨v, hv, hrow, _⟩, hB⟩ ⟨Bx, hBx, bX, rfl⟩ hlt
    have hc := hv.cell
    have e0 := bX.cell 0
    have e1 := bX.cell 1
    simp only [List.getElem?_toArray, List.getElem?_cons_zero, List.getElem?_cons_succ] at e0 e1
    obtain ⟨xi, xa, xb⟩ := x
    dsimp only at e0 e1
    have hle : w.heap.size ≤ w1.heap.size := hBw1.size
    gi_wp2_with (gi_at_builtin; refine wpListIn_append_own _ rfl _ _ 159 rfl w.heap.size 162 i0 (.agg #[.int .i64 0, .int .i64 0]) 2 16 Try.und22 hi hz0 hz1 hz2 rfl (by decide) _ _ _ rfl (hrow.alloc _) ⟨W.heap.size, 0, none⟩ 1 1 [.int .i64 xa, .int .i64 xb] rfl rfl (news22 _ _ _ _) (by simp [Value.oneCell']) (by unfold maxLen; omega) (by omega) (by have := hB.size; simp; omega) ?_; intro v' w2 hown' hgrow _; obtain ⟨g', cap', rfl⟩ := ownsRow_succ hown'; obtain ⟨hv1, hv2, hr2, hk2, hb2⟩ := hv.appended (by decide) hrow hB.size hle hown' hgrow; have hc1 := hv1.cell; have hf1 := hv1.frozen)
    refine ⟨hk2.from _, ⟨hb2, fun b cs hb => ?_⟩, ⟨_, hv2, ?_⟩, hB.trans hb2⟩
    · refine ((hb.alloc _).grown hgrow (fun e => owns_blk hb hrow (by decide) b e rfl)).other (fun e => ?_) _ _
      subst e
      have h1 : W.heap[w1.heap.size]? = some (.cells cs 128 (0, 0)) := hb
      have h2 : W.heap[w1.heap.size]? = some (.cells #[v] 159 (0, 0)) := hv
      rw [h1] at h2
      injection h2 with h2
      injection h2 with _ h2
      exact absurd h2 (by decide)
    · rw [pairs_snoc, List.length_append]
      exact hr2
  case done =>
    rintro D ys W hD rfl ⟨⟨v, hv, hrow, _⟩, hB⟩ hK
    have hc := hv.cell
    rw [sgl_map, sglTo_length] at hrow
    have hs2 := hB2.size
    gi_wp2
    refine ⟨by simp, .inl ⟨_, _, rfl, run_takeDeferred hK, ?_⟩⟩
    exact ⟨_, results_tmp2 rfl _ _ _, v, rfl, ownsRow_putObj hrow _ hK rfl, hB.trans (belowK_b (w := w) (Nat.le_refl _) W D _ _ (by omega) hK rfl rfl)⟩
  case stop =>
    rintro D c pre W _ _ h _
    exact h.elim

end Go.Proofs.Ytlhbgainpeehoaa
