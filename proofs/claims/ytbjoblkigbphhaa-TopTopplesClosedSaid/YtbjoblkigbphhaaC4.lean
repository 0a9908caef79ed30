/-
  Contract of the closed game, played: Play.
-/
import Derived.Test.YtbjoblkigbphhaaC2
import Derived.Test.YtbjoblkigbphhaaC3
namespace Go.Proofs.Ytbjoblkigbphhaa
set_option linter.unusedVariables false
set_option linter.unusedSimpArgs false
open Go.RowKit Go.Shelf Go.Maps
attribute [local go_sem] Oper.semAt_some

/-- What a played game hands back. -/
def RetPy (w : World) (g : G) (N : Nat) (ds : List Int) (e : Ending) (w' : World) : Prop :=
  Below w.heap.size w w' ∧ (e = .returned (.tuple #[.agg #[.int .i64 0, .int .i64 0, .int .i64 0, .bool false], .int .i64 12]) ∨
    (∃ x y z : Int, e = .returned (.tuple #[.agg #[.int .i64 x, .int .i64 y, .int .i64 z, .bool false], .int .i64 0])) ∨
    ∃ k : Nat, k ≤ 4096 ∧ rdyN g (-1) N (rndTo g (-1) N (s0Of ds) k).L = [] ∧ e = .returned (.tuple #[.agg #[.int .i64 k, .int .i64 1, .int .i64 0, .bool true], .int .i64 0]))

theorem results_cell2 {P : Program} {fn : Func} {k1 k2 : Nat} {t1 t2 : TypeId} (h : fn.results = #[.cell k1 t1, .cell k2 t2]) {tmps : Array Value} {b1 b2 : Nat} {v1 v2 : Value} {w : World}
    (h1 : tmps[k1]?.getD undef = .pointer (some ⟨b1, 0, none⟩)) (h2 : tmps[k2]?.getD undef = .pointer (some ⟨b2, 0, none⟩))
    (l1 : (loadVar t1 ⟨b1, 0, none⟩).run P w = .ok v1 w) (l2 : (loadVar t2 ⟨b2, 0, none⟩).run P w = .ok v2 w) :
    (results fn tmps).run P w = .ok (.tuple #[v1, v2]) w := by
  simp [results, h, h1, h2, asAddr, l1, l2, Sem.run_bind, Result.andThen]
theorem load_game {w : World} {b : Nat} {v0 v1 v2 v3 : Value} (h : Blk w b #[v0, v1, v2, v3] 47) : (loadVar 47 ⟨b, 0, none⟩).run Try.prog w = .ok (.agg #[v0, v1, v2, v3]) w := by
  have hlt := h.lt
  have c0 := h.cell 0
  have c1 := h.cell 1
  have c2 := h.cell 2
  have c3 := h.cell 3
  simp only [List.getElem?_toArray, List.getElem?_cons_zero, List.getElem?_cons_succ] at c0 c1 c2 c3
  go_simp

theorem store_fnJ {W : World} {b : Nat} {T : TypeId} {old : Value} (h : Boxed W b T old) : (store ⟨b, 0, none⟩ (.func (.func 41) #[] #[])).run Try.prog W = .ok () (W.setCell ⟨b, 0, none⟩ (.func (.func 41) #[] #[])) := by
  rw [run_store _ _ _ _ _ rfl, h.cell]
  simp [h.frozen]
theorem pl_new (w : World) (gc : Array Value) : ∃ W0 r4 r5, W0 = ((w.alloc (.cells gc 24)).alloc (.cells #[.int .i64 0, .int .i64 0, .int .i64 0, .bool false] 47)).alloc (.cells #[.int .i64 0] 35) ∧
    r4 = w.heap.size + 1 ∧ r5 = w.heap.size + 1 + 1 ∧ Blk W0 w.heap.size gc 24 ∧ Blk W0 r4 #[.int .i64 0, .int .i64 0, .int .i64 0, .bool false] 47 ∧ Boxed W0 r5 35 (.int .i64 0) ∧ (w.heap.size < r4 ∧ r4 < r5 ∧ r5 < W0.heap.size) ∧ Below w.heap.size w W0 := by
  refine ⟨_, _, _, rfl, rfl, rfl, ?_, ?_, ?_, ⟨by omega, by omega, by simp⟩, by go_grown⟩
  · exact ((Blk.new w _ _).alloc _).alloc _
  · have := (Blk.new (w.alloc (.cells gc 24)) #[.int .i64 0, .int .i64 0, .int .i64 0, .bool false] 47).alloc (.cells #[.int .i64 0] 35)
    rwa [World.size_alloc] at this
  · have := Boxed.new ((w.alloc (.cells gc 24)).alloc (.cells #[.int .i64 0, .int .i64 0, .int .i64 0, .bool false] 47)) 35 (.int .i64 0)
    simp only [World.size_alloc] at this
    exact this

theorem jb_new (W : World) (m : Nat) : ∃ W6 s8 n9 f10, W6 = ((W.alloc (.cells #[.map (some m)] 86)).alloc (.cells #[.int .i64 0] 3)).alloc (.cells #[.int .i64 0] 3) ∧ s8 = W.heap.size ∧ n9 = W.heap.size + 1 ∧ f10 = W.heap.size + 1 + 1 ∧
    Boxed W6 s8 86 (.map (some m)) ∧ Boxed W6 n9 3 (.int .i64 0) ∧ Boxed W6 f10 3 (.int .i64 0) ∧ (s8 < n9 ∧ n9 < f10 ∧ f10 < W6.heap.size) ∧ Below W.heap.size W W6 := by
  refine ⟨_, _, _, _, rfl, rfl, rfl, rfl, ?_, ?_, ?_, ⟨by omega, by omega, by simp⟩, by go_grown⟩
  · exact ((Boxed.new W _ _).alloc _).alloc _
  · have := (Boxed.new (W.alloc (.cells #[.map (some m)] 86)) 3 (.int .i64 0)).alloc (.cells #[.int .i64 0] 3)
    rwa [World.size_alloc] at this
  · have := Boxed.new ((W.alloc (.cells #[.map (some m)] 86)).alloc (.cells #[.int .i64 0] 3)) 3 (.int .i64 0)
    simp only [World.size_alloc] at this
    exact this
theorem below_grownJ {B m : Nat} {w W W' : World} (h : Below B w W) (hs : B ≤ W.heap.size) (hg : W.grownBy W' (some m)) (hm : B ≤ m) : Below B w W' :=
  ⟨hg.os.trans h.os, hg.tape.trans h.tape, hg.output.trans h.output, Nat.le_trans h.size hg.size, fun k hk => (hg.block k (by omega) (fun e => by have := Option.some.inj e; omega)).trans (h.block k hk)⟩

/-- How the blocks of the played game lie. -/
structure JO (lo r4 r5 k7 m s8 n9 f10 Dx B : Nat) : Prop where
  o : lo < r4 ∧ r4 < r5 ∧ r5 < k7 ∧ k7 < m ∧ m < s8 ∧ s8 < n9 ∧ n9 < f10 ∧ f10 < Dx ∧ Dx < B
/-- What holds between two rounds of the played game. -/
structure PJ (w : World) (r4 r5 k7 m s8 n9 f10 : Nat) (pre : List (Value × Value)) (W : World) : Prop where
  b4 : Blk W r4 #[.int .i64 0, .int .i64 0, .int .i64 0, .bool false] 47
  b5 : Boxed W r5 35 (.int .i64 0)
  bk : Boxed W k7 83 (.func (.func 41) #[] #[])
  bs : Boxed W s8 86 (.map (some m))
  bn : Boxed W n9 3 (.int .i64 pre.length)
  bf : ∃ x : Int, Boxed W f10 3 (.int .i64 x)
  mp : ∃ D, W.ownsMap Try.prog 82 markElem m (pre.length + 1) D
  le : pre.length ≤ 4096
  bel : Below w.heap.size w W
theorem PJ.keptC {w : World} {r4 r5 k7 m s8 n9 f10 Dx B : Nat} {pre : List (Value × Value)} {W W' : World} (h : PJ w r4 r5 k7 m s8 n9 f10 pre W) (ho : JO w.heap.size r4 r5 k7 m s8 n9 f10 Dx B) {p : Nat → Prop} (hk : KeptC w.heap.size p W W') (hp : ∀ k, p k → f10 < k)
    (hm : ∀ n D, W.ownsMap Try.prog 82 markElem m n D → W'.ownsMap Try.prog 82 markElem m n D) : PJ w r4 r5 k7 m s8 n9 f10 pre W' := by
  have ho := ho.o
  obtain ⟨x, hx⟩ := h.bf
  obtain ⟨D, hD⟩ := h.mp
  exact ⟨hk.blk h.b4 (fun e => by have := hp _ e; omega), boxed_keptC h.b5 hk (fun e => by have := hp _ e; omega), boxed_keptC h.bk hk (fun e => by have := hp _ e; omega), boxed_keptC h.bs hk (fun e => by have := hp _ e; omega), boxed_keptC h.bn hk (fun e => by have := hp _ e; omega),
    ⟨x, boxed_keptC hx hk (fun e => by have := hp _ e; omega)⟩, ⟨D, hm _ _ hD⟩, h.le, h.bel.trans hk.low⟩
/-- .. and where it has been left. -/
def PXJ (w : World) (r4 r5 : Nat) (W : World) : Prop :=
  Below w.heap.size w W ∧ ((Blk W r4 #[.int .i64 0, .int .i64 0, .int .i64 0, .bool false] 47 ∧ Boxed W r5 35 (.int .i64 12)) ∨
    ∃ x y z : Int, Blk W r4 #[.int .i64 x, .int .i64 y, .int .i64 z, .bool false] 47 ∧ Boxed W r5 35 (.int .i64 0))
theorem PXJ.keptC {w : World} {r4 r5 k7 m s8 n9 f10 Dx B : Nat} {W W' : World} (h : PXJ w r4 r5 W) (ho : JO w.heap.size r4 r5 k7 m s8 n9 f10 Dx B) {p : Nat → Prop} (hk : KeptC w.heap.size p W W') (hp : ∀ k, p k → f10 < k) : PXJ w r4 r5 W' := by
  have ho := ho.o
  obtain ⟨h1, h2⟩ := h
  refine ⟨h1.trans hk.low, ?_⟩
  rcases h2 with ⟨h2, h3⟩ | ⟨x, y, z, h2, h3⟩
  · exact .inl ⟨hk.blk h2 (fun e => by have := hp _ e; omega), boxed_keptC h3 hk (fun e => by have := hp _ e; omega)⟩
  · exact .inr ⟨x, y, z, hk.blk h2 (fun e => by have := hp _ e; omega), boxed_keptC h3 hk (fun e => by have := hp _ e; omega)⟩
/-- In the midst of a round. -/
structure PK (w : World) (r4 r5 k7 m s8 n9 f10 : Nat) (n x : Int) (c : Nat) (W : World) : Prop where
  b4 : Blk W r4 #[.int .i64 0, .int .i64 0, .int .i64 0, .bool false] 47
  b5 : Boxed W r5 35 (.int .i64 0)
  bk : Boxed W k7 83 (.func (.func 41) #[] #[])
  bs : Boxed W s8 86 (.map (some m))
  bn : Boxed W n9 3 (.int .i64 n)
  bf : Boxed W f10 3 (.int .i64 x)
  mp : ∃ D, W.ownsMap Try.prog 82 markElem m c D
  bel : Below w.heap.size w W
theorem PK.below {w : World} {r4 r5 k7 m s8 n9 f10 : Nat} {n x : Int} {c : Nat} {W W' : World} (h : PK w r4 r5 k7 m s8 n9 f10 n x c W) (hB : Below W.heap.size W W') : PK w r4 r5 k7 m s8 n9 f10 n x c W' := by
  obtain ⟨D, hD⟩ := h.mp
  exact ⟨h.b4.below hB, boxed_below h.b5 hB, boxed_below h.bk hB, boxed_below h.bs hB, boxed_below h.bn hB, boxed_below h.bf hB, ⟨D, hD.kept (grown_below hB) (by simp)⟩, up h.bel hB⟩
theorem boxedAt {W : World} {B D : Nat} {t : TypeId} {v : Value} (h : Boxed W B t v) (hne : B ≠ D) (o : Nat) (u : Value) : Boxed (W.setCell ⟨D, o, none⟩ u) B t v :=
  (Below.heap_setCell W ⟨D, o, none⟩ u B hne).trans h
/-- The results of a game, stored. -/
def gst (W : World) (r4 r5 : Nat) (v0 v1 v2 v3 er : Value) : World := ((((W.setCell ⟨r4, 0, none⟩ v0).setCell ⟨r4, 1, none⟩ v1).setCell ⟨r4, 2, none⟩ v2).setCell ⟨r4, 3, none⟩ v3).setCell ⟨r5, 0, none⟩ er
theorem gst_laws {W : World} {r4 r5 lo B : Nat} {o0 o1 o2 o3 o : Value} (h4 : Blk W r4 #[o0, o1, o2, o3] 47) (h5 : Boxed W r5 35 o) (hl4 : lo ≤ r4) (hl5 : lo ≤ r5) (hne : r5 ≠ r4) (v0 v1 v2 v3 er : Value) :
    Blk (gst W r4 r5 v0 v1 v2 v3 er) r4 #[v0, v1, v2, v3] 47 ∧ Boxed (gst W r4 r5 v0 v1 v2 v3 er) r5 35 er ∧ KeptC lo (fun k => k = r4 ∨ k = r5) W (gst W r4 r5 v0 v1 v2 v3 er) ∧ KeepsFrom B W (gst W r4 r5 v0 v1 v2 v3 er) := by
  have k0 := (KeptC.setAt W r4 0 v0).weaken hl4 (p' := fun k => k = r4 ∨ k = r5) (fun k e => .inl e)
  have k1 := k0.trans ((KeptC.setAt (W.setCell ⟨r4, 0, none⟩ v0) r4 1 v1).weaken hl4 (fun k e => .inl e))
  have k2 := k1.trans ((KeptC.setAt ((W.setCell ⟨r4, 0, none⟩ v0).setCell ⟨r4, 1, none⟩ v1) r4 2 v2).weaken hl4 (fun k e => .inl e))
  have k3 := k2.trans ((KeptC.setAt (((W.setCell ⟨r4, 0, none⟩ v0).setCell ⟨r4, 1, none⟩ v1).setCell ⟨r4, 2, none⟩ v2) r4 3 v3).weaken hl4 (fun k e => .inl e))
  have k4 := k3.trans ((KeptC.setAt ((((W.setCell ⟨r4, 0, none⟩ v0).setCell ⟨r4, 1, none⟩ v1).setCell ⟨r4, 2, none⟩ v2).setCell ⟨r4, 3, none⟩ v3) r5 0 er).weaken hl5 (fun k e => .inr e))
  have b := (((h4.set 0 v0).set 1 v1).set 2 v2).set 3 v3
  have q4 := (KeptC.setAt ((((W.setCell ⟨r4, 0, none⟩ v0).setCell ⟨r4, 1, none⟩ v1).setCell ⟨r4, 2, none⟩ v2).setCell ⟨r4, 3, none⟩ v3) r5 0 er).blk b (fun e => hne e.symm)
  have h5' := boxedAt (boxedAt (boxedAt (boxedAt h5 hne 0 v0) hne 1 v1) hne 2 v2) hne 3 v3
  exact ⟨q4, h5'.set er, k4, ((((((KeepsOthers.setCell _ _ _).from _).trans ((KeepsOthers.setCell _ _ _).from _)).trans ((KeepsOthers.setCell _ _ _).from _)).trans ((KeepsOthers.setCell _ _ _).from _)).trans ((KeepsOthers.setCell _ _ _).from _))⟩
theorem keptC_below {n₀ : Nat} {W W' : World} (hn : n₀ ≤ W.heap.size) (h : Below W.heap.size W W') (p : Nat → Prop) : KeptC n₀ p W W' :=
  ⟨h.mono hn, fun k o hk _ _ => (h.block k (Array.getElem?_eq_some_iff.1 hk).1).trans hk⟩
theorem keptC_map {n₀ m : Nat} {W W' : World} (hn : n₀ ≤ m) (hg : W.grownBy W' (some m)) (hm : ∀ o, W.heap[m]? = some o → o.isCells = false) (hs : n₀ ≤ W.heap.size) (p : Nat → Prop) : KeptC n₀ p W W' :=
  ⟨below_grownJ (Below.refl _ _) hs hg hn, fun k o hk ho _ => (hg.block k (Array.getElem?_eq_some_iff.1 hk).1 (fun e => by
    have e := Option.some.inj e
    subst e
    rw [hm o hk] at ho
    cases ho)).trans hk⟩
theorem keepsFrom_below {B : Nat} {W W' : World} (h : Below W.heap.size W W') : KeepsFrom B W W' := ⟨h.size, fun k o _ hk _ => (h.block k (Array.getElem?_eq_some_iff.1 hk).1).trans hk⟩
theorem keepsFrom_map {B m : Nat} {W W' : World} (hg : W.grownBy W' (some m)) (hm : m < B) : KeepsFrom B W W' := ⟨hg.size, fun k o hB hk _ => (hg.block k (Array.getElem?_eq_some_iff.1 hk).1 (fun e => by have := Option.some.inj e; omega)).trans hk⟩
theorem owns_isMap {W : World} {m n : Nat} {D : DataW Unit} (h : W.ownsMap Try.prog 82 markElem m n D) : ∀ o, W.heap[m]? = some o → o.isCells = false := by
  obtain ⟨es, clock, hb, _⟩ := h
  intro o ho
  rw [hb] at ho
  obtain rfl := Option.some.inj ho
  rfl

/-- The first region that draws its order. -/
structure J14 (W0 : World) (m : Nat) (x2 : Value) (L : Array Bool) (v13 v14 v43 v44 v45 v46 v47 v48 v49 v50 : Value) (w : World) : Prop where
  sz : L.size = 11
  bel : Below W0.heap.size W0 w
  h0 : L.getD 0 false = true → v44 = .map (some m)
  h1 : L.getD 1 false = true → v45 = .func (.func 41) #[] #[]
  h2 : L.getD 2 false = true → v46 = x2
  h3 : L.getD 3 false = true → IsKey v47
  h4 : L.getD 4 false = true → ∃ (a b : Int) (o : Bool), v48 = .tuple #[.agg #[.int .i64 a, .int .i64 b], .bool o]
  h5 : L.getD 5 false = true → ∃ (a b : Int) (o : Bool), v43 = .tuple #[.agg #[.int .i64 a, .int .i64 b], .bool o]
  h6 : L.getD 6 false = true → ∃ a b : Int, v49 = .agg #[.int .i64 a, .int .i64 b]
  h7 : L.getD 7 false = true → ∃ o : Bool, v50 = .bool o
  h8 : L.getD 8 false = true → ∃ (bb : Nat) (a b : Int), v13 = .pointer (some ⟨bb, 0, none⟩) ∧ W0.heap.size ≤ bb ∧ Blk w bb #[.int .i64 a, .int .i64 b] 85
  h10 : L.getD 10 false = true → ∃ o : Bool, v14 = .bool o
theorem J14.init {W0 : World} {m : Nat} {x2 : Value} {L : Array Bool} {v13 v14 v43 v44 v45 v46 v47 v48 v49 v50 : Value} {w : World} (hs : L.size = 11) (hL : ∀ k, L.getD k false = false) (hB : Below W0.heap.size W0 w) : J14 W0 m x2 L v13 v14 v43 v44 v45 v46 v47 v48 v49 v50 w :=
  ⟨hs, hB, (fun x => absurd x (by rw [hL]; decide)), (fun x => absurd x (by rw [hL]; decide)), (fun x => absurd x (by rw [hL]; decide)), (fun x => absurd x (by rw [hL]; decide)), (fun x => absurd x (by rw [hL]; decide)), (fun x => absurd x (by rw [hL]; decide)), (fun x => absurd x (by rw [hL]; decide)), (fun x => absurd x (by rw [hL]; decide)), (fun x => absurd x (by rw [hL]; decide)), (fun x => absurd x (by rw [hL]; decide))⟩
theorem J14.mono {W0 : World} {m : Nat} {x2 : Value} {L : Array Bool} {v13 v14 v43 v44 v45 v46 v47 v48 v49 v50 : Value} {w : World} (h : J14 W0 m x2 L v13 v14 v43 v44 v45 v46 v47 v48 v49 v50 w) {w' : World} (hB : Below w.heap.size w w') : J14 W0 m x2 L v13 v14 v43 v44 v45 v46 v47 v48 v49 v50 w' :=
  ⟨h.sz, up h.bel hB, h.h0, h.h1, h.h2, h.h3, h.h4, h.h5, h.h6, h.h7, (fun x => by obtain ⟨bb, a, b, h1, h2, h3⟩ := h.h8 x; exact ⟨bb, a, b, h1, h2, h3.below hB⟩), h.h10⟩
theorem J14.op0 {W0 : World} {m : Nat} {x2 : Value} {L : Array Bool} {v13 v14 v43 v44 v45 v46 v47 v48 v49 v50 : Value} {w : World} (h : J14 W0 m x2 L v13 v14 v43 v44 v45 v46 v47 v48 v49 v50 w) (u : Value) (hu : u = .map (some m)) : J14 W0 m x2 (L.setIfInBounds 0 true) v13 v14 v43 u v45 v46 v47 v48 v49 v50 w :=
  ⟨by rw [Array.size_setIfInBounds]; exact h.sz, h.bel, (fun _ => hu), (fun x => h.h1 (gdn (by decide) x)), (fun x => h.h2 (gdn (by decide) x)), (fun x => h.h3 (gdn (by decide) x)), (fun x => h.h4 (gdn (by decide) x)), (fun x => h.h5 (gdn (by decide) x)), (fun x => h.h6 (gdn (by decide) x)), (fun x => h.h7 (gdn (by decide) x)), (fun x => h.h8 (gdn (by decide) x)), (fun x => h.h10 (gdn (by decide) x))⟩
theorem J14.op1 {W0 : World} {m : Nat} {x2 : Value} {L : Array Bool} {v13 v14 v43 v44 v45 v46 v47 v48 v49 v50 : Value} {w : World} (h : J14 W0 m x2 L v13 v14 v43 v44 v45 v46 v47 v48 v49 v50 w) (u : Value) (hu : u = .func (.func 41) #[] #[]) : J14 W0 m x2 (L.setIfInBounds 1 true) v13 v14 v43 v44 u v46 v47 v48 v49 v50 w :=
  ⟨by rw [Array.size_setIfInBounds]; exact h.sz, h.bel, (fun x => h.h0 (gdn (by decide) x)), (fun _ => hu), (fun x => h.h2 (gdn (by decide) x)), (fun x => h.h3 (gdn (by decide) x)), (fun x => h.h4 (gdn (by decide) x)), (fun x => h.h5 (gdn (by decide) x)), (fun x => h.h6 (gdn (by decide) x)), (fun x => h.h7 (gdn (by decide) x)), (fun x => h.h8 (gdn (by decide) x)), (fun x => h.h10 (gdn (by decide) x))⟩
theorem J14.op2 {W0 : World} {m : Nat} {x2 : Value} {L : Array Bool} {v13 v14 v43 v44 v45 v46 v47 v48 v49 v50 : Value} {w : World} (h : J14 W0 m x2 L v13 v14 v43 v44 v45 v46 v47 v48 v49 v50 w) (u : Value) (hu : u = x2) : J14 W0 m x2 (L.setIfInBounds 2 true) v13 v14 v43 v44 v45 u v47 v48 v49 v50 w :=
  ⟨by rw [Array.size_setIfInBounds]; exact h.sz, h.bel, (fun x => h.h0 (gdn (by decide) x)), (fun x => h.h1 (gdn (by decide) x)), (fun _ => hu), (fun x => h.h3 (gdn (by decide) x)), (fun x => h.h4 (gdn (by decide) x)), (fun x => h.h5 (gdn (by decide) x)), (fun x => h.h6 (gdn (by decide) x)), (fun x => h.h7 (gdn (by decide) x)), (fun x => h.h8 (gdn (by decide) x)), (fun x => h.h10 (gdn (by decide) x))⟩
theorem J14.op3 {W0 : World} {m : Nat} {x2 : Value} {L : Array Bool} {v13 v14 v43 v44 v45 v46 v47 v48 v49 v50 : Value} {w : World} (h : J14 W0 m x2 L v13 v14 v43 v44 v45 v46 v47 v48 v49 v50 w) (u : Value) (hu : IsKey u) : J14 W0 m x2 (L.setIfInBounds 3 true) v13 v14 v43 v44 v45 v46 u v48 v49 v50 w :=
  ⟨by rw [Array.size_setIfInBounds]; exact h.sz, h.bel, (fun x => h.h0 (gdn (by decide) x)), (fun x => h.h1 (gdn (by decide) x)), (fun x => h.h2 (gdn (by decide) x)), (fun _ => hu), (fun x => h.h4 (gdn (by decide) x)), (fun x => h.h5 (gdn (by decide) x)), (fun x => h.h6 (gdn (by decide) x)), (fun x => h.h7 (gdn (by decide) x)), (fun x => h.h8 (gdn (by decide) x)), (fun x => h.h10 (gdn (by decide) x))⟩
theorem J14.op4 {W0 : World} {m : Nat} {x2 : Value} {L : Array Bool} {v13 v14 v43 v44 v45 v46 v47 v48 v49 v50 : Value} {w : World} (h : J14 W0 m x2 L v13 v14 v43 v44 v45 v46 v47 v48 v49 v50 w) (u : Value) (hu : ∃ (a b : Int) (o : Bool), u = .tuple #[.agg #[.int .i64 a, .int .i64 b], .bool o]) : J14 W0 m x2 (L.setIfInBounds 4 true) v13 v14 v43 v44 v45 v46 v47 u v49 v50 w :=
  ⟨by rw [Array.size_setIfInBounds]; exact h.sz, h.bel, (fun x => h.h0 (gdn (by decide) x)), (fun x => h.h1 (gdn (by decide) x)), (fun x => h.h2 (gdn (by decide) x)), (fun x => h.h3 (gdn (by decide) x)), (fun _ => hu), (fun x => h.h5 (gdn (by decide) x)), (fun x => h.h6 (gdn (by decide) x)), (fun x => h.h7 (gdn (by decide) x)), (fun x => h.h8 (gdn (by decide) x)), (fun x => h.h10 (gdn (by decide) x))⟩
theorem J14.op5 {W0 : World} {m : Nat} {x2 : Value} {L : Array Bool} {v13 v14 v43 v44 v45 v46 v47 v48 v49 v50 : Value} {w : World} (h : J14 W0 m x2 L v13 v14 v43 v44 v45 v46 v47 v48 v49 v50 w) (u : Value) (hu : ∃ (a b : Int) (o : Bool), u = .tuple #[.agg #[.int .i64 a, .int .i64 b], .bool o]) : J14 W0 m x2 (L.setIfInBounds 5 true) v13 v14 u v44 v45 v46 v47 v48 v49 v50 w :=
  ⟨by rw [Array.size_setIfInBounds]; exact h.sz, h.bel, (fun x => h.h0 (gdn (by decide) x)), (fun x => h.h1 (gdn (by decide) x)), (fun x => h.h2 (gdn (by decide) x)), (fun x => h.h3 (gdn (by decide) x)), (fun x => h.h4 (gdn (by decide) x)), (fun _ => hu), (fun x => h.h6 (gdn (by decide) x)), (fun x => h.h7 (gdn (by decide) x)), (fun x => h.h8 (gdn (by decide) x)), (fun x => h.h10 (gdn (by decide) x))⟩
theorem J14.op6 {W0 : World} {m : Nat} {x2 : Value} {L : Array Bool} {v13 v14 v43 v44 v45 v46 v47 v48 v49 v50 : Value} {w : World} (h : J14 W0 m x2 L v13 v14 v43 v44 v45 v46 v47 v48 v49 v50 w) (u : Value) (hu : ∃ a b : Int, u = .agg #[.int .i64 a, .int .i64 b]) : J14 W0 m x2 (L.setIfInBounds 6 true) v13 v14 v43 v44 v45 v46 v47 v48 u v50 w :=
  ⟨by rw [Array.size_setIfInBounds]; exact h.sz, h.bel, (fun x => h.h0 (gdn (by decide) x)), (fun x => h.h1 (gdn (by decide) x)), (fun x => h.h2 (gdn (by decide) x)), (fun x => h.h3 (gdn (by decide) x)), (fun x => h.h4 (gdn (by decide) x)), (fun x => h.h5 (gdn (by decide) x)), (fun _ => hu), (fun x => h.h7 (gdn (by decide) x)), (fun x => h.h8 (gdn (by decide) x)), (fun x => h.h10 (gdn (by decide) x))⟩
theorem J14.op7 {W0 : World} {m : Nat} {x2 : Value} {L : Array Bool} {v13 v14 v43 v44 v45 v46 v47 v48 v49 v50 : Value} {w : World} (h : J14 W0 m x2 L v13 v14 v43 v44 v45 v46 v47 v48 v49 v50 w) (u : Value) (hu : ∃ o : Bool, u = .bool o) : J14 W0 m x2 (L.setIfInBounds 7 true) v13 v14 v43 v44 v45 v46 v47 v48 v49 u w :=
  ⟨by rw [Array.size_setIfInBounds]; exact h.sz, h.bel, (fun x => h.h0 (gdn (by decide) x)), (fun x => h.h1 (gdn (by decide) x)), (fun x => h.h2 (gdn (by decide) x)), (fun x => h.h3 (gdn (by decide) x)), (fun x => h.h4 (gdn (by decide) x)), (fun x => h.h5 (gdn (by decide) x)), (fun x => h.h6 (gdn (by decide) x)), (fun _ => hu), (fun x => h.h8 (gdn (by decide) x)), (fun x => h.h10 (gdn (by decide) x))⟩
theorem J14.op8 {W0 : World} {m : Nat} {x2 : Value} {L : Array Bool} {v13 v14 v43 v44 v45 v46 v47 v48 v49 v50 : Value} {w : World} (h : J14 W0 m x2 L v13 v14 v43 v44 v45 v46 v47 v48 v49 v50 w) (u : Value) (hu : ∃ (bb : Nat) (a b : Int), u = .pointer (some ⟨bb, 0, none⟩) ∧ W0.heap.size ≤ bb ∧ Blk w bb #[.int .i64 a, .int .i64 b] 85) : J14 W0 m x2 (L.setIfInBounds 8 true) u v14 v43 v44 v45 v46 v47 v48 v49 v50 w :=
  ⟨by rw [Array.size_setIfInBounds]; exact h.sz, h.bel, (fun x => h.h0 (gdn (by decide) x)), (fun x => h.h1 (gdn (by decide) x)), (fun x => h.h2 (gdn (by decide) x)), (fun x => h.h3 (gdn (by decide) x)), (fun x => h.h4 (gdn (by decide) x)), (fun x => h.h5 (gdn (by decide) x)), (fun x => h.h6 (gdn (by decide) x)), (fun x => h.h7 (gdn (by decide) x)), (fun _ => hu), (fun x => h.h10 (gdn (by decide) x))⟩
theorem J14.op10 {W0 : World} {m : Nat} {x2 : Value} {L : Array Bool} {v13 v14 v43 v44 v45 v46 v47 v48 v49 v50 : Value} {w : World} (h : J14 W0 m x2 L v13 v14 v43 v44 v45 v46 v47 v48 v49 v50 w) (u : Value) (hu : ∃ o : Bool, u = .bool o) : J14 W0 m x2 (L.setIfInBounds 10 true) v13 u v43 v44 v45 v46 v47 v48 v49 v50 w :=
  ⟨by rw [Array.size_setIfInBounds]; exact h.sz, h.bel, (fun x => h.h0 (gdn (by decide) x)), (fun x => h.h1 (gdn (by decide) x)), (fun x => h.h2 (gdn (by decide) x)), (fun x => h.h3 (gdn (by decide) x)), (fun x => h.h4 (gdn (by decide) x)), (fun x => h.h5 (gdn (by decide) x)), (fun x => h.h6 (gdn (by decide) x)), (fun x => h.h7 (gdn (by decide) x)), (fun x => h.h8 (gdn (by decide) x)), (fun _ => hu)⟩
theorem J14.op9 {W0 : World} {m : Nat} {x2 : Value} {L : Array Bool} {v13 v14 v43 v44 v45 v46 v47 v48 v49 v50 : Value} {w : World} (h : J14 W0 m x2 L v13 v14 v43 v44 v45 v46 v47 v48 v49 v50 w) {bb : Nat} {a b : Int} (hv : v13 = .pointer (some ⟨bb, 0, none⟩)) (hW : W0.heap.size ≤ bb) (hb : Blk w bb #[.int .i64 a, .int .i64 b] 85) (a' b' : Int) : J14 W0 m x2 (L.setIfInBounds 9 true) v13 v14 v43 v44 v45 v46 v47 v48 v49 v50 ((w.setCell ⟨bb, 0, none⟩ (.int .i64 a')).setCell ⟨bb, 1, none⟩ (.int .i64 b')) :=
  ⟨by rw [Array.size_setIfInBounds]; exact h.sz, (h.bel.setCell (p := ⟨bb, 0, none⟩) hW _).setCell (p := ⟨bb, 1, none⟩) hW _, (fun x => h.h0 (gdn (by decide) x)), (fun x => h.h1 (gdn (by decide) x)), (fun x => h.h2 (gdn (by decide) x)), (fun x => h.h3 (gdn (by decide) x)), (fun x => h.h4 (gdn (by decide) x)), (fun x => h.h5 (gdn (by decide) x)), (fun x => h.h6 (gdn (by decide) x)), (fun x => h.h7 (gdn (by decide) x)), (fun _ => ⟨bb, a', b', hv, hW, (hb.set 0 _).set 1 _⟩), (fun x => h.h10 (gdn (by decide) x))⟩
theorem gup {L : Array Bool} {i k : Nat} (h : L.getD k false = true) : (L.setIfInBounds i true).getD k false = true := by
  by_cases e : i = k
  · subst e
    rw [Array.getD_eq_getD_getElem?] at h
    have hk : i < L.size := Classical.byContradiction fun hn => by rw [Array.getElem?_eq_none (by omega)] at h; cases h
    rw [getD_listed hk]
    simp
  · rw [getD_set_ne false e]; exact h
/-- The second one. -/
structure J17 (W0 : World) (m : Nat) (x2 : Value) (n x : Int) (L : Array Bool) (v63 v64 v65 v66 v67 v68 v69 : Value) (w : World) : Prop where
  sz : L.size = 8
  bel : Below W0.heap.size W0 w
  h0 : L.getD 0 false = true → v63 = .map (some m)
  h1 : L.getD 1 false = true → v64 = .func (.func 41) #[] #[]
  h2 : L.getD 2 false = true → v65 = x2
  h3 : L.getD 3 false = true → IsKey v66 ∧ L.getD 1 false = true ∧ L.getD 2 false = true
  h4 : L.getD 4 false = true → v67 = .int .i64 n
  h5 : L.getD 5 false = true → v68 = .int .i64 x
  h6 : L.getD 6 false = true → v69 = .agg #[.int .i64 n, .int .i64 x] ∧ L.getD 4 false = true ∧ L.getD 5 false = true
  h7 : L.getD 7 false = false
theorem J17.init {W0 : World} {m : Nat} {x2 : Value} {n x : Int} {L : Array Bool} {v63 v64 v65 v66 v67 v68 v69 : Value} {w : World} (hs : L.size = 8) (hL : ∀ k, L.getD k false = false) (hB : Below W0.heap.size W0 w) : J17 W0 m x2 n x L v63 v64 v65 v66 v67 v68 v69 w :=
  ⟨hs, hB, (fun y => absurd y (by rw [hL]; decide)), (fun y => absurd y (by rw [hL]; decide)), (fun y => absurd y (by rw [hL]; decide)), (fun y => absurd y (by rw [hL]; decide)), (fun y => absurd y (by rw [hL]; decide)), (fun y => absurd y (by rw [hL]; decide)), (fun y => absurd y (by rw [hL]; decide)), hL 7⟩
theorem J17.mono {W0 : World} {m : Nat} {x2 : Value} {n x : Int} {L : Array Bool} {v63 v64 v65 v66 v67 v68 v69 : Value} {w : World} (h : J17 W0 m x2 n x L v63 v64 v65 v66 v67 v68 v69 w) {w' : World} (hB : Below w.heap.size w w') : J17 W0 m x2 n x L v63 v64 v65 v66 v67 v68 v69 w' :=
  ⟨h.sz, up h.bel hB, h.h0, h.h1, h.h2, h.h3, h.h4, h.h5, h.h6, h.h7⟩
theorem J17.op0 {W0 : World} {m : Nat} {x2 : Value} {n x : Int} {L : Array Bool} {v63 v64 v65 v66 v67 v68 v69 : Value} {w : World} (h : J17 W0 m x2 n x L v63 v64 v65 v66 v67 v68 v69 w) (u : Value) (hu : u = .map (some m)) : J17 W0 m x2 n x (L.setIfInBounds 0 true) u v64 v65 v66 v67 v68 v69 w :=
  ⟨by rw [Array.size_setIfInBounds]; exact h.sz, h.bel, (fun _ => hu), (fun y => h.h1 (gdn (by decide) y)), (fun y => h.h2 (gdn (by decide) y)), (fun y => by obtain ⟨h1, h2, h3⟩ := h.h3 (gdn (by decide) y); exact ⟨h1, gup h2, gup h3⟩), (fun y => h.h4 (gdn (by decide) y)), (fun y => h.h5 (gdn (by decide) y)), (fun y => by obtain ⟨h1, h2, h3⟩ := h.h6 (gdn (by decide) y); exact ⟨h1, gup h2, gup h3⟩), by rw [getD_set_ne false (by decide)]; exact h.h7⟩
theorem J17.op1 {W0 : World} {m : Nat} {x2 : Value} {n x : Int} {L : Array Bool} {v63 v64 v65 v66 v67 v68 v69 : Value} {w : World} (h : J17 W0 m x2 n x L v63 v64 v65 v66 v67 v68 v69 w) (u : Value) (hu : u = .func (.func 41) #[] #[]) : J17 W0 m x2 n x (L.setIfInBounds 1 true) v63 u v65 v66 v67 v68 v69 w :=
  ⟨by rw [Array.size_setIfInBounds]; exact h.sz, h.bel, (fun y => h.h0 (gdn (by decide) y)), (fun _ => hu), (fun y => h.h2 (gdn (by decide) y)), (fun y => by obtain ⟨h1, h2, h3⟩ := h.h3 (gdn (by decide) y); exact ⟨h1, gup h2, gup h3⟩), (fun y => h.h4 (gdn (by decide) y)), (fun y => h.h5 (gdn (by decide) y)), (fun y => by obtain ⟨h1, h2, h3⟩ := h.h6 (gdn (by decide) y); exact ⟨h1, gup h2, gup h3⟩), by rw [getD_set_ne false (by decide)]; exact h.h7⟩
theorem J17.op2 {W0 : World} {m : Nat} {x2 : Value} {n x : Int} {L : Array Bool} {v63 v64 v65 v66 v67 v68 v69 : Value} {w : World} (h : J17 W0 m x2 n x L v63 v64 v65 v66 v67 v68 v69 w) (u : Value) (hu : u = x2) : J17 W0 m x2 n x (L.setIfInBounds 2 true) v63 v64 u v66 v67 v68 v69 w :=
  ⟨by rw [Array.size_setIfInBounds]; exact h.sz, h.bel, (fun y => h.h0 (gdn (by decide) y)), (fun y => h.h1 (gdn (by decide) y)), (fun _ => hu), (fun y => by obtain ⟨h1, h2, h3⟩ := h.h3 (gdn (by decide) y); exact ⟨h1, gup h2, gup h3⟩), (fun y => h.h4 (gdn (by decide) y)), (fun y => h.h5 (gdn (by decide) y)), (fun y => by obtain ⟨h1, h2, h3⟩ := h.h6 (gdn (by decide) y); exact ⟨h1, gup h2, gup h3⟩), by rw [getD_set_ne false (by decide)]; exact h.h7⟩
theorem J17.op3 {W0 : World} {m : Nat} {x2 : Value} {n x : Int} {L : Array Bool} {v63 v64 v65 v66 v67 v68 v69 : Value} {w : World} (h : J17 W0 m x2 n x L v63 v64 v65 v66 v67 v68 v69 w) (u : Value) (hu : IsKey u ∧ L.getD 1 false = true ∧ L.getD 2 false = true) : J17 W0 m x2 n x (L.setIfInBounds 3 true) v63 v64 v65 u v67 v68 v69 w :=
  ⟨by rw [Array.size_setIfInBounds]; exact h.sz, h.bel, (fun y => h.h0 (gdn (by decide) y)), (fun y => h.h1 (gdn (by decide) y)), (fun y => h.h2 (gdn (by decide) y)), (fun _ => ⟨hu.1, gup hu.2.1, gup hu.2.2⟩), (fun y => h.h4 (gdn (by decide) y)), (fun y => h.h5 (gdn (by decide) y)), (fun y => by obtain ⟨h1, h2, h3⟩ := h.h6 (gdn (by decide) y); exact ⟨h1, gup h2, gup h3⟩), by rw [getD_set_ne false (by decide)]; exact h.h7⟩
theorem J17.op4 {W0 : World} {m : Nat} {x2 : Value} {n x : Int} {L : Array Bool} {v63 v64 v65 v66 v67 v68 v69 : Value} {w : World} (h : J17 W0 m x2 n x L v63 v64 v65 v66 v67 v68 v69 w) (u : Value) (hu : u = .int .i64 n) : J17 W0 m x2 n x (L.setIfInBounds 4 true) v63 v64 v65 v66 u v68 v69 w :=
  ⟨by rw [Array.size_setIfInBounds]; exact h.sz, h.bel, (fun y => h.h0 (gdn (by decide) y)), (fun y => h.h1 (gdn (by decide) y)), (fun y => h.h2 (gdn (by decide) y)), (fun y => by obtain ⟨h1, h2, h3⟩ := h.h3 (gdn (by decide) y); exact ⟨h1, gup h2, gup h3⟩), (fun _ => hu), (fun y => h.h5 (gdn (by decide) y)), (fun y => by obtain ⟨h1, h2, h3⟩ := h.h6 (gdn (by decide) y); exact ⟨h1, gup h2, gup h3⟩), by rw [getD_set_ne false (by decide)]; exact h.h7⟩
theorem J17.op5 {W0 : World} {m : Nat} {x2 : Value} {n x : Int} {L : Array Bool} {v63 v64 v65 v66 v67 v68 v69 : Value} {w : World} (h : J17 W0 m x2 n x L v63 v64 v65 v66 v67 v68 v69 w) (u : Value) (hu : u = .int .i64 x) : J17 W0 m x2 n x (L.setIfInBounds 5 true) v63 v64 v65 v66 v67 u v69 w :=
  ⟨by rw [Array.size_setIfInBounds]; exact h.sz, h.bel, (fun y => h.h0 (gdn (by decide) y)), (fun y => h.h1 (gdn (by decide) y)), (fun y => h.h2 (gdn (by decide) y)), (fun y => by obtain ⟨h1, h2, h3⟩ := h.h3 (gdn (by decide) y); exact ⟨h1, gup h2, gup h3⟩), (fun y => h.h4 (gdn (by decide) y)), (fun _ => hu), (fun y => by obtain ⟨h1, h2, h3⟩ := h.h6 (gdn (by decide) y); exact ⟨h1, gup h2, gup h3⟩), by rw [getD_set_ne false (by decide)]; exact h.h7⟩
theorem J17.op6 {W0 : World} {m : Nat} {x2 : Value} {n x : Int} {L : Array Bool} {v63 v64 v65 v66 v67 v68 v69 : Value} {w : World} (h : J17 W0 m x2 n x L v63 v64 v65 v66 v67 v68 v69 w) (u : Value) (hu : u = .agg #[.int .i64 n, .int .i64 x] ∧ L.getD 4 false = true ∧ L.getD 5 false = true) : J17 W0 m x2 n x (L.setIfInBounds 6 true) v63 v64 v65 v66 v67 v68 u w :=
  ⟨by rw [Array.size_setIfInBounds]; exact h.sz, h.bel, (fun y => h.h0 (gdn (by decide) y)), (fun y => h.h1 (gdn (by decide) y)), (fun y => h.h2 (gdn (by decide) y)), (fun y => by obtain ⟨h1, h2, h3⟩ := h.h3 (gdn (by decide) y); exact ⟨h1, gup h2, gup h3⟩), (fun y => h.h4 (gdn (by decide) y)), (fun y => h.h5 (gdn (by decide) y)), (fun _ => ⟨hu.1, gup hu.2.1, gup hu.2.2⟩), by rw [getD_set_ne false (by decide)]; exact h.h7⟩

/-- Behind the second one. -/
def Fin17 (W0 : World) (m c : Nat) (w' : World) : Prop := ∃ Wm, Below W0.heap.size W0 Wm ∧ Wm.grownBy w' (some m) ∧ (∀ o, Wm.heap[m]? = some o → o.isCells = false) ∧ ∃ D, w'.ownsMap Try.prog 82 markElem m c D
set_option maxRecDepth 100000 in
set_option maxHeartbeats 8000000 in
theorem p_Play (g : G) (gv : Value) (ds : List Int) (dv : Value) (N : Nat) (hN : N = g.n.toNat) (w : World) (hg : GrR w gv g) (hd : IntsR w dv ds) (h : CgOk g ds) :
    Calls Try.prog 15 #[gv, dv] w (RetPy w g N ds) := by
  have hg' := hg
  obtain ⟨ev, rfl, a, cap, rfl, _⟩ := hg'
  have hd' := hd
  obtain ⟨da, dc, rfl, _⟩ := hd'
  have hn := h.gok.n
  have hdl0 := h.len
  have hdl : ds.length = N := by omega
  have HN : Hid (0 < N ∧ N ≤ 12 ∧ (N : Int) ≤ g.n ∧ g.n ≤ (N : Int) ∧ N = g.n.toNat) := by show _ ∧ _; omega
  have HDL : Hid (ds.length = N) := hdl
  have HCG := hid h
  rw [hdl] at hd ⊢
  clear hn hN hdl
  refine (callsIn_wide (n := 5)).1 ?_
  have hro : Fence.wide.round = none := rfl
  refine callsIn_of_wp_marks Try.func15 rfl trivial ?_ hro
  simp only [Try.ntmps15, List.size_toArray, List.length_cons, List.length_nil, Nat.reduceAdd, Nat.reduceSub, Array.replicate_succ, Array.replicate_zero, List.push_toArray, List.append_toArray, List.nil_append, List.cons_append]
  refine wpIn_wide.2 ?_
  go_upto_region 1 with fail
  obtain ⟨W0, r4, r5, e0, e1, e2, hbg, hb4, hb5, hlt, hB0⟩ := pl_new w #[.int .i64 g.n, .slice a g.es.length cap]
  rw [← e0, ← e2, ← e1]
  clear e0 e1 e2
  have HBG := hid hbg
  have HR4 := hid hb4
  have HR5 := hid hb5
  have HB0 := hid hB0
  have HLT := hid hlt
  have HG0 := hid (hg.below hB0)
  have HD0 := hid (hd.below hB0)
  have HCH := hid (p_cgCheck g _ ds _ W0 HG0.out HD0.out HCG.out)
  have c0 : W0.cell? ⟨w.heap.size, 0, none⟩ = some (.int .i64 g.n) := (HBG.out.cell 0).trans rfl
  have c1 : W0.cell? ⟨w.heap.size, 1, none⟩ = some (.slice a g.es.length cap) := (HBG.out.cell 1).trans rfl
  have cl := HBG.out.lt
  clear hbg hb4 hb5 hB0 hg hd hlt hdl0 h
  go_wp2_with fail
  refine HCH.out.mono ?_
  rintro e W1 ⟨rfl, hB1⟩
  have HB1 := hid hB1
  clear hB1 c0 c1 cl HCH
  dsimp only
  have HD1 := hid (HD0.out.below HB1.out)
  have hB12 := (Below.refl W1.heap.size W1).alloc (Nat.le_refl _) (.cells #[.func (.func 41) #[] #[]] 83)
  have HB12 := hid hB12
  have hst := store_fnJ (Boxed.new W1 83 .nilFunc)
  have HK7 := hid (Boxed.new W1 83 (.func (.func 41) #[] #[]))
  have HB2 := hid (up HB1.out hB12)
  clear hB12
  go_upto_region 5 with fail
  generalize hW2 : W1.alloc (.cells #[.func (.func 41) #[] #[]] 83) = W2 at *
  have HD2 := hid (HD1.out.below HB12.out)
  have HK7lt : Hid (W0.heap.size ≤ W1.heap.size ∧ W1.heap.size < W2.heap.size) := ⟨HB1.out.size, HK7.out.lt⟩
  generalize W1.heap.size = k7 at *
  clear hst hW2 HB12 HD1
  have hmm := @run_makeMap Try.prog
  have hom := World.ownsMap_made W2 Try.prog 82 markElem
  have HOM := hid hom
  have hst3 := (Below.refl W2.heap.size W2).alloc (Nat.le_refl _) (.map #[] 0)
  have HK73 := hid (boxed_below HK7.out hst3)
  have c7 := HK73.out.cell
  have l7 := HK73.out.lt
  have HD3 := hid (HD2.out.below hst3)
  clear hom
  go_wp2_with fail
  clear hmm c7 l7
  have HMW : Hid (W2.heap.size < (W2.alloc (.map #[] 0)).heap.size ∧ W0.heap.size ≤ W2.heap.size) := ⟨by simp, HB2.out.size⟩
  have HB3 := hid (up HB2.out hst3)
  clear hst3
  generalize hW3 : W2.alloc (.map #[] 0) = W3 at *
  generalize hm : W2.heap.size = m at *
  clear hW3
  have HWF : Hid (∀ x ∈ ds, (Lit.int .i64 x).wf = true) := fun x hx => WalkArith.wf_i64 (by have := HCG.out.all x hx; omega)
  refine (k_pile ds _ W3 HD3.out (by have := HDL.out; have := HN.out; omega) (by have := HDL.out; have := HN.out; omega)).mono ?_
  rintro e W4 ⟨rfl, hB4⟩
  obtain ⟨kl, hkl⟩ := (keyArr_key (ds := ds) (by have := HDL.out; have := HN.out; omega) HWF.out).lit
  generalize Value.agg (keyArr ds) = KV at *
  have HOM4 := hid (HOM.out.kept (grown_below hB4) (by simp))
  obtain ⟨W5, hrun, hown, hgr⟩ := HOM4.out.update K_pile und_seen (by decide) hkl (markElem_mk 0 0)
  have HOM5 := hid hown
  have HGR5 := hid hgr
  have HB4 := hid (up HB3.out hB4)
  have HK74 := hid (boxed_below HK73.out hB4)
  have HML : Hid (m < W4.heap.size) := by show _ < _; have := HMW.out; have := hB4.size; omega
  clear hown hgr hB4 HOM HOM4 HB3 HK73 HD3 hkl
  dsimp only
  go_upto_region 6 with fail
  go_upto_region 7 with fail
  have HB5' := hid (below_grownJ HB4.out HB4.out.size HGR5.out (by have := HMW.out; omega))
  have HK75 := hid (HK74.out.kept HGR5.out (fun e => by have := Option.some.inj e; have := HK7lt.out; omega))
  have HS45 : Hid (W4.heap.size ≤ W5.heap.size) := HGR5.out.size
  obtain ⟨W6, s8, n9, f10, e0, e1, e2, e3, hs8, hn9, hf10, hlt, hB6⟩ := jb_new W5 m
  rw [← e0, ← e3, ← e2, ← e1]
  have HS8e : Hid (s8 = W5.heap.size) := e1
  clear e0 e1 e2 e3
  have HB6 := hid (up HB5'.out hB6)
  have HS8 := hid hs8
  have HN9 := hid hn9
  have HF10 := hid hf10
  have HLT6 := hid hlt
  have HK76 := hid (boxed_below HK75.out hB6)
  have HOM6 := hid (HOM5.out.kept (grown_below hB6) (by simp))
  have HBG6 := hid (HBG.out.below HB6.out)
  have c0 : W6.cell? ⟨w.heap.size, 0, none⟩ = some (.int .i64 g.n) := (HBG6.out.cell 0).trans rfl
  have c1 : W6.cell? ⟨w.heap.size, 1, none⟩ = some (.slice a g.es.length cap) := (HBG6.out.cell 1).trans rfl
  have cl := HBG6.out.lt
  clear hB6 hs8 hn9 hf10 hlt hrun
  go_wp2_with fail
  refine (q_of g _ N HN.out.2.2.1 HN.out.2.2.2.1 (-1) W6 (HG0.out.below HB6.out) HCG.out.gok).mono ?_
  rintro e W7 ⟨b, bv, go, bs, rfl, hbd, hB7⟩
  have HBD := hid hbd
  have HB67 := hid hB7
  clear hbd hB7 c0 c1 cl
  dsimp only
  go_wp2_with fail
  refine (q_rounds b da N dc W7).mono ?_
  rintro e w3 ⟨rfl, hw3⟩
  have HBx := hid ((Boxed.new W7 89 (.pointer (some ⟨b, 0, none⟩))).alloc (.cells #[.slice da N dc] 26))
  have HDx := hid (Boxed.new (W7.alloc (.cells #[.pointer (some ⟨b, 0, none⟩)] 89)) 26 (.slice da N dc))
  have HB78 : Hid (Below W7.heap.size W7 w3) := by rw [hw3]; show Below _ _ _; go_grown
  have hs3 : w3.heap.size = W7.heap.size + 2 := by rw [hw3]; simp
  rw [← hw3] at HBx HDx
  rw [World.size_alloc] at HDx
  clear hw3
  dsimp only
  go_wp2_with fail
  refine (wpIn_wide (n := 5)).1 ?_
  rename_i K2 hK2
  have HJO : Hid (JO w.heap.size r4 r5 k7 m s8 n9 f10 (W7.heap.size + 1) w3.heap.size) := ⟨by
    have h1 := HLT.out; have h2 := HK7lt.out; have h3 := HML.out; have h4 := HS45.out; have h5 := HS8e.out; have h6 := HLT6.out; have h7 := HB67.out.size
    omega⟩
  have HB03 := hid (up HB6.out (HB67.out.trans (HB78.out.mono HB67.out.size)))
  have HWW : Hid (w.heap.size ≤ w3.heap.size) := by show _ ≤ _; have := HJO.out.o; omega
  have HW2 : Hid (w.heap.size ≤ W7.heap.size + 1) := by show _ ≤ _; have := HJO.out.o; omega
  have hN0 := HN.out.1
  have hN12 := HN.out.2.1
  have hbL : ∀ u, u < N → -1000000000 ≤ (s0Of ds).L u ∧ (s0Of ds).L u ≤ 1000000000 := fun u hu => by
    have := HCG.out.each u (by have := HDL.out; omega)
    show -1000000000 ≤ dOf ds u ∧ dOf ds u ≤ 1000000000
    omega
  have hd3 : IntsR w3 (.slice da N dc) (vecOf N (s0Of ds).L) := by
    show IntsR w3 (.slice da N dc) (vecOf N (dOf ds))
    rw [vec_dOf HDL.out]
    exact HD0.out.below HB03.out
  have HSEQ := hid (q_rounds1 (5 - 1) (by omega) g HCG.out.gok (-1) N hN0 hN12 (s0Of ds) hbL w3 W6.heap.size b bv go bs (HBD.out.mono HB78.out) W7.heap.size (W7.heap.size + 1) (.slice da N dc) HBx.out HDx.out hd3
    (fun k => k = n9 ∨ k = f10) (by
      have k0 := HBD.out.hb
      have k2 := (owns_lt HBD.out.vals).1
      have k3 := (owns_lt HBD.out.rows.outer).1
      have k4 := fun i hi => (owns_lt (HBD.out.rows.row i hi)).1
      have k5 := HLT6.out
      have k6 := HB67.out.size
      intro k hk
      refine ⟨by omega, by omega, by omega, by omega, fun i hi => by have := k4 i hi; omega, by omega, by omega⟩)
    (ints_off (p := fun k => (k = n9 ∨ k = f10) ∨ k = W7.heap.size + 1) HD0.out (by rw [HDL.out]; exact hN0) (by
      have k5 := HLT6.out; have k6 := HB67.out.size; have h2 := HK7lt.out; have h3 := HML.out; have h4 := HS45.out; have h5 := HS8e.out; intro k hk; omega)) w.heap.size 4096 (by omega))
  have HI0 : Hid (PJ w r4 r5 k7 m s8 n9 f10 [] w3) := by
    have hB63 := HB67.out.trans (HB78.out.mono HB67.out.size)
    refine ⟨HR4.out.below HB03.out, boxed_below HR5.out HB03.out, boxed_below HK76.out hB63, boxed_below HS8.out hB63, boxed_below HN9.out hB63, ⟨0, boxed_below HF10.out hB63⟩, ⟨_, HOM6.out.kept (grown_below hB63) (by simp)⟩, Nat.zero_le _, HB0.out.trans (HB03.out.mono HB0.out.size)⟩
  have hs9 : f10 < W6.heap.size := HLT6.out.2.2
  clear hbL hd3 hs3 hs9
  refine wpIn_rangeX hro (by omega) (gf := 66) (lb := #[.pointer (some ⟨W7.heap.size, 0, none⟩), .pointer (some ⟨W7.heap.size + 1, 0, none⟩)]) rfl trivial (enters_of Try.func66 (by kernel_rfl) rfl)
    HSEQ.out HDx.out.lt KeptC.trans (KeptC.book HWW.out) (fun _ => rfl) (fun pre W => PJ w r4 r5 k7 m s8 n9 f10 pre W) (fun c pre W => c = .ret ∧ PXJ w r4 r5 W)
    (fun pre W W' row hs hg hr => hs.keptC HJO.out (keptC_grown hg (fun r e => ⟨Nat.le_trans HWW.out (hr r e).1, (hr r e).2⟩) hs.bel.size) (fun k h => h.elim) (fun n D h => h.kept hg (fun e => by have := (hr m e.symm).1; have := HJO.out.o; omega)))
    (fun c pre W W' row hs hg hr => ⟨hs.1, hs.2.keptC HJO.out (keptC_grown hg (fun r e => ⟨Nat.le_trans HWW.out (hr r e).1, (hr r e).2⟩) hs.2.1.size) (fun k h => h.elim)⟩)
    (fun pre X v hs => hs.keptC HJO.out ((KeptC.set X _ v).weaken HW2.out (fun k h => h)) (fun k h => by have := HJO.out.o; omega) (fun n D h => h.setCell (by have := HJO.out.o; show m ≠ W7.heap.size + 1; omega) v))
    (fun pre X hs => hs.le)
    (fun pre => ex_own _ _ _ _ _ _ pre) HI0.out
    (fun x => { tmps := #[(.agg #[.int .i64 g.n, .slice a g.es.length cap]), (.slice da N dc), (.pointer (some ⟨w.heap.size, 0, none⟩)), undef, (.pointer (some ⟨r4, 0, none⟩)), (.pointer (some ⟨r5, 0, none⟩)), (.int .i64 0), (.pointer (some ⟨k7, 0, none⟩)), (.pointer (some ⟨s8, 0, none⟩)), (.pointer (some ⟨n9, 0, none⟩)), (.pointer (some ⟨f10, 0, none⟩)), (x.1), (x.2), undef, undef, (.agg #[.int .i64 g.n, .slice a g.es.length cap]), (.slice da N dc), (.int .i64 0), (.int .i64 0), (.bool false), undef, undef, (.map (some m)), (.func (.func 41) #[] #[]), (.slice da N dc), (KV), (.agg #[.int .i64 0, .int .i64 0]), (.map (some m)), (.agg #[.int .i64 g.n, .slice a g.es.length cap]), (.pointer (some ⟨b, 0, none⟩)), (.slice da N dc), (.func (.func 66) #[] #[.pointer (some ⟨W7.heap.size, 0, none⟩), .pointer (some ⟨W7.heap.size + 1, 0, none⟩)]), (x.1), (x.2), undef, undef, undef, undef, undef, undef, undef, undef, undef, undef, undef, undef, undef, undef, undef, undef, undef, undef, undef, undef, undef, undef, undef, undef, undef, undef, undef, undef, undef, undef, undef, undef, undef, undef, undef, undef, undef, undef, undef, undef, undef, undef], defers := [] }) ?assign ?body ?done ?stop
  case assign =>
    rintro l x W K hK
    gi_wp2
    exact hK
  case body =>
    clear HI0 HSEQ hK2
    rintro l pre ⟨x1, x2⟩ W hI ⟨hne, hr1, hr2⟩
    dsimp only at hr1 hr2 ⊢
    obtain ⟨la, lc, rfl⟩ := owns_slice hr1
    obtain ⟨xa, xc, rfl⟩ := owns_slice hr2
    have HI := hid hI
    have HR1 := hid hr1
    have HR2 := hid hr2
    have HLE := hid (rdy_len g (-1) N (rndTo g (-1) N (s0Of ds) pre.length).L)
    obtain ⟨fx, hbf⟩ := hI.bf
    have HBF := hid hbf
    have c9 := hI.bn.cell
    have f9 := hI.bn.frozen
    have l9 := hI.bn.lt
    have c10 := hbf.cell
    have fz10 := hbf.frozen
    have l10 := hbf.lt
    have hkl := hI.le
    have HLEN : Hid (∀ y : Value × Value, (pre ++ [y]).length = pre.length + 1) := fun y => by simp
    have hn910 : n9 ≠ f10 := by have := HJO.out.o; omega
    have hn109 : f10 ≠ n9 := fun e => hn910 e.symm
    clear hI hne hr1 hr2 hbf hN0 hN12 HB78 HB67
    generalize hRL : rdyN g (-1) N (rndTo g (-1) N (s0Of ds) pre.length).L = RL at *
    clear hRL
    generalize hkp : pre.length = kp at *
    have HKP := hid hkp
    clear hkp
    have wk : IntKind.i64.wrap ((kp : Int) + 1) = (kp : Int) + 1 := IntWalk.i64_in _ (by omega)
    have HKL := hid hkl
    obtain ⟨fy, hfy⟩ : ∃ fy, IntKind.i64.wrap (fx + (RL.length : Int)) = fy := ⟨_, rfl⟩
    gi_upto_region 12 with fail
    clear hfy
    obtain ⟨Wb, hWb⟩ : ∃ Wb, Wb = (W.setCell ⟨n9, 0, none⟩ (.int .i64 ((kp : Int) + 1))).setCell ⟨f10, 0, none⟩ (.int .i64 fy) := ⟨_, rfl⟩
    rw [← hWb]
    have ho := HJO.out.o
    have hKb : KeptC w.heap.size (fun k => k = n9 ∨ k = f10) W Wb := by
      rw [hWb]
      exact ((KeptC.setAt W n9 0 _).weaken (by omega) (fun k e => .inl e)).trans ((KeptC.setAt _ f10 0 _).weaken (by omega) (fun k e => .inr e))
    have hFb : KeepsFrom w3.heap.size W Wb := by
      rw [hWb]
      exact ((KeepsOthers.setCell _ _ _).from _).trans ((KeepsOthers.setCell _ _ _).from _)
    have hPK : PK w r4 r5 k7 m s8 n9 f10 ((kp : Int) + 1) fy (kp + 1) Wb := by
      obtain ⟨D, hD⟩ := HI.out.mp
      rw [HKP.out] at hD
      refine ⟨hKb.blk HI.out.b4 (by omega), boxed_keptC HI.out.b5 hKb (by omega), boxed_keptC HI.out.bk hKb (by omega), boxed_keptC HI.out.bs hKb (by omega), ?_, ?_, ⟨D, ?_⟩, HI.out.bel.trans hKb.low⟩
      · rw [hWb]; exact (HI.out.bn.set _).other hn910 _
      · rw [hWb]; exact (HBF.out.other hn109 _).set _
      · rw [hWb]; exact (hD.setCell (by show m ≠ n9; omega) _).setCell (by show m ≠ f10; omega) _
    have HR1b := hid (hKb.row HR1.out (fun k e => by have := own_ge HR1.out k e; omega))
    have HR2b := hid (hKb.row HR2.out (fun k e => by have := own_ge HR2.out k e; omega))
    have HKb := hid hKb
    have HFb := hid hFb
    have HPK := hid hPK
    have c9 := hPK.bn.cell
    have l9 := hPK.bn.lt
    clear hKb hFb hPK hWb HR1 HR2 c10 fz10 f9 l10 wk HBF
    by_cases hov : 4096 < kp + 1
    · have hov' : (4096 : Int) < (kp : Int) + 1 := by omega
      have d0 := HPK.out.b4.cell 0
      have d1 := HPK.out.b4.cell 1
      have d2 := HPK.out.b4.cell 2
      have d3 := HPK.out.b4.cell 3
      simp only [List.getElem?_toArray, List.getElem?_cons_zero, List.getElem?_cons_succ] at d0 d1 d2 d3
      have g0 := HPK.out.b4.frozen 0
      have g1 := HPK.out.b4.frozen 1
      have g2 := HPK.out.b4.frozen 2
      have g3 := HPK.out.b4.frozen 3
      have d5 := HPK.out.b5.cell
      have g5 := HPK.out.b5.frozen
      have l4 := HPK.out.b4.lt
      have l5 := HPK.out.b5.lt
      have n45 : r5 ≠ r4 := by omega
      clear ho
      gi_wp2_with fail
      obtain ⟨x4, x5, xk, xf⟩ := gst_laws (lo := w.heap.size) (B := w3.heap.size) HPK.out.b4 HPK.out.b5 (by have := HJO.out.o; omega) (by have := HJO.out.o; omega) n45 (.int .i64 0) (.int .i64 0) (.int .i64 0) (.bool false) (.int .i64 12)
      exact ⟨HFb.out.trans xf, rfl, HPK.out.bel.trans xk.low, .inl ⟨x4, x5⟩⟩
    · have hov' : ¬ (4096 : Int) < (kp : Int) + 1 := by omega
      gi_upto_region 14 with fail
      rename_i K3 hK3
      have hCGk := Cg.ok HCG.out HN.out.2.2.2.2 (Cg.to HCG.out HN.out.2.2.2.2 (-1) (kp + 1))
      have HKEY : Hid (IsKey (.agg (keyArr (vecOf N (rndTo g (-1) N (s0Of ds) (kp + 1)).L)))) := keyArr_key (by rw [vecOf_len]; exact HN.out.2.1) (fun x hx => WalkArith.wf_i64 (by have := hCGk.all x hx; omega))
      have HKC := hid (fun (w2 : World) (h : Below Wb.heap.size Wb w2) => k_pile (vecOf N (rndTo g (-1) N (s0Of ds) (kp + 1)).L) (.slice xa N xc) w2 ((owns_intsN HR2b.out (vecOf_len _ _) (by have := HN.out; omega)).below h) (by rw [vecOf_len]; exact HN.out.1) (by rw [vecOf_len]; exact HN.out.2.1))
      have HOV : Hid (kp + 1 ≤ 4096) := by show _ ≤ _; omega
      clear hCGk hov hov' hkl c9 l9 ho
      generalize Value.agg (keyArr (vecOf N (rndTo g (-1) N (s0Of ds) (kp + 1)).L)) = KV2 at *
      refine wpIn_region_any (by kernel_rfl) ?_
      refine wpAnyIn_inv (fun L a' w' => ∃ v13 v14 v43 v44 v45 v46 v47 v48 v49 v50, a' = { tmps := #[(.agg #[.int .i64 g.n, .slice a g.es.length cap]), (.slice da N dc), (.pointer (some ⟨w.heap.size, 0, none⟩)), undef, (.pointer (some ⟨r4, 0, none⟩)), (.pointer (some ⟨r5, 0, none⟩)), (.int .i64 0), (.pointer (some ⟨k7, 0, none⟩)), (.pointer (some ⟨s8, 0, none⟩)), (.pointer (some ⟨n9, 0, none⟩)), (.pointer (some ⟨f10, 0, none⟩)), (.slice la RL.length lc), (.slice xa N xc), (v13), (v14), (.agg #[.int .i64 g.n, .slice a g.es.length cap]), (.slice da N dc), (.int .i64 0), (.int .i64 0), (.bool false), undef, undef, (.map (some m)), (.func (.func 41) #[] #[]), (.slice da N dc), (KV), (.agg #[.int .i64 0, .int .i64 0]), (.map (some m)), (.agg #[.int .i64 g.n, .slice a g.es.length cap]), (.pointer (some ⟨b, 0, none⟩)), (.slice da N dc), (.func (.func 66) #[] #[.pointer (some ⟨W7.heap.size, 0, none⟩), .pointer (some ⟨W7.heap.size + 1, 0, none⟩)]), (.slice la RL.length lc), (.slice xa N xc), (.int .i64 kp), (.int .i64 ((kp : Int) + 1)), (.int .i64 fx), (.slice la RL.length lc), (.int .i64 RL.length), (.int .i64 fy), (.int .i64 ((kp : Int) + 1)), (.bool false), undef, (v43), (v44), (v45), (v46), (v47), (v48), (v49), (v50), undef, undef, undef, undef, undef, undef, undef, undef, undef, undef, undef, undef, undef, undef, undef, undef, undef, undef, undef, undef, undef, undef, undef, undef, undef], defers := [] } ∧ J14 Wb m (.slice xa N xc) L v13 v14 v43 v44 v45 v46 v47 v48 v49 v50 w') ?step ?fin _ _ _ _ (by simp) ⟨undef, undef, undef, undef, undef, undef, undef, undef, undef, undef, rfl, J14.init rfl (fun k => rep_false 11 k) (Below.drew (Below.refl _ _))⟩
      case step =>
        clear hK3
        rintro L a' w2 i ⟨v13, v14, v43, v44, v45, v46, v47, v48, v49, v50, rfl, hJ⟩ hi
        have HJ := hid hJ
        have HP2 := hid (HPK.out.below hJ.bel)
        have hilt : i < 11 := ready_lt hi
        have c8 := HP2.out.bs.cell
        have l8 := HP2.out.bs.lt
        have c7 := HP2.out.bk.cell
        have l7 := HP2.out.bk.lt
        obtain rfl | rfl | rfl | rfl | rfl | rfl | rfl | rfl | rfl | rfl | rfl := (show i = 0 ∨ i = 1 ∨ i = 2 ∨ i = 3 ∨ i = 4 ∨ i = 5 ∨ i = 6 ∨ i = 7 ∨ i = 8 ∨ i = 9 ∨ i = 10 by omega)
        · clear hJ c7 l7
          refine wpOpIn_one rfl ?_ rfl
          gi_wp2_with fail
          exact ⟨_, _, _, _, _, _, _, _, _, _, rfl, HJ.out.op0 _ rfl⟩
        · clear hJ c8 l8
          refine wpOpIn_one rfl ?_ rfl
          gi_wp2_with fail
          exact ⟨_, _, _, _, _, _, _, _, _, _, rfl, HJ.out.op1 _ rfl⟩
        · clear hJ c8 l8 c7 l7
          refine wpOpIn_one rfl ?_ rfl
          gi_wp2_with fail
          exact ⟨_, _, _, _, _, _, _, _, _, _, rfl, HJ.out.op2 _ rfl⟩
        · obtain rfl := HJ.out.h1 (ready_dep hi (by kernel_rfl))
          obtain rfl := HJ.out.h2 (ready_dep hi (by kernel_rfl))
          have hkc := hid (HKC.out w2 hJ.bel)
          clear hJ c8 l8 c7 l7
          refine wpOpIn_one rfl ?_ rfl
          gi_wp2_with fail
          refine ⟨trivial, ?_⟩
          refine (show CallsIn (Fence.wide.inRound l) _ _ _ _ _ _ from callsIn_wide.2 hkc.out).mono ?_
          rintro e w3' ⟨rfl, hB⟩
          dsimp only
          gi_wp2_with fail
          exact ⟨_, _, _, _, _, _, _, _, _, _, rfl, (HJ.out.mono hB).op3 _ HKEY.out⟩
        · obtain rfl := HJ.out.h0 (ready_dep hi (by kernel_rfl))
          obtain ⟨kl2, hkl2⟩ := (HJ.out.h3 (ready_dep hi (by kernel_rfl))).lit
          obtain ⟨D2, hD2⟩ := HP2.out.mp
          clear hJ c8 l8 c7 l7
          refine wpOpIn_one rfl ?_ rfl
          refine wpListIn_lookup_own_ok _ rfl _ _ 86 rfl _ _ K_pile und_seen markElem (zero_mark _) (.agg []) [] (markElem_mk 0 0) m _ D2 rfl hD2 _ kl2 rfl hkl2 ?_
          intro v ps hv
          obtain ⟨ma, mb, rfl⟩ := markElem_inv hv
          gi_wp2_with fail
          exact ⟨_, _, _, _, _, _, _, _, _, _, rfl, HJ.out.op4 _ ⟨_, _, _, rfl⟩⟩
        · obtain ⟨ma, mb, mo, rfl⟩ := HJ.out.h4 (ready_dep hi (by kernel_rfl))
          clear hJ c8 l8 c7 l7
          refine wpOpIn_one rfl ?_ rfl
          gi_wp2_with fail
          exact ⟨_, _, _, _, _, _, _, _, _, _, rfl, HJ.out.op5 _ ⟨_, _, _, rfl⟩⟩
        · obtain ⟨ma, mb, mo, rfl⟩ := HJ.out.h5 (ready_dep hi (by kernel_rfl))
          clear hJ c8 l8 c7 l7
          refine wpOpIn_one rfl ?_ rfl
          gi_wp2_with fail
          exact ⟨_, _, _, _, _, _, _, _, _, _, rfl, HJ.out.op6 _ ⟨_, _, rfl⟩⟩
        · obtain ⟨ma, mb, mo, rfl⟩ := HJ.out.h5 (ready_dep hi (by kernel_rfl))
          clear hJ c8 l8 c7 l7
          refine wpOpIn_one rfl ?_ rfl
          gi_wp2_with fail
          exact ⟨_, _, _, _, _, _, _, _, _, _, rfl, HJ.out.op7 _ ⟨_, rfl⟩⟩
        · have hst := (Below.refl w2.heap.size w2).alloc (Nat.le_refl _) (.cells #[.int .i64 0, .int .i64 0] 85)
          have HST := hid hst
          have HNB := hid (Blk.new w2 #[.int .i64 0, .int .i64 0] 85)
          have HSZ := hid hJ.bel.size
          clear hJ c8 l8 c7 l7 hst
          refine wpOpIn_one rfl ?_ rfl
          gi_wp2_with fail
          exact ⟨_, _, _, _, _, _, _, _, _, _, rfl, (HJ.out.mono HST.out).op8 _ ⟨_, _, _, rfl, HSZ.out, HNB.out⟩⟩
        · obtain ⟨bb, ma, mb, rfl, hWb2, hbb⟩ := HJ.out.h8 (ready_dep hi (by kernel_rfl))
          obtain ⟨na, nb2, rfl⟩ := HJ.out.h6 (ready_dep hi (by kernel_rfl))
          have HBB := hid hbb
          have d0 := hbb.cell 0
          have d1 := hbb.cell 1
          simp only [List.getElem?_toArray, List.getElem?_cons_zero, List.getElem?_cons_succ] at d0 d1
          have g0 := hbb.frozen 0
          have g1 := hbb.frozen 1
          have lb := hbb.lt
          clear hJ c8 l8 c7 l7 hbb
          refine wpOpIn_one rfl ?_ rfl
          gi_wp2_with fail
          exact ⟨_, _, _, _, _, _, _, _, _, _, rfl, HJ.out.op9 rfl hWb2 HBB.out _ _⟩
        · obtain ⟨mo, rfl⟩ := HJ.out.h7 (ready_dep hi (by kernel_rfl))
          clear hJ c8 l8 c7 l7
          refine wpOpIn_one rfl ?_ rfl
          gi_wp2_with fail
          exact ⟨_, _, _, _, _, _, _, _, _, _, rfl, HJ.out.op10 _ ⟨_, rfl⟩⟩
      case fin =>
        rintro L a' w2 ⟨v13, v14, v43, v44, v45, v46, v47, v48, v49, v50, rfl, hJ⟩ hr
        have hall := ready_nil_allM (by kernel_rfl) hJ.sz hr
        obtain ⟨bb, ma, mb, rfl, hWb2, hbb⟩ := hJ.h8 (hall 8 (by decide))
        obtain ⟨mo, rfl⟩ := hJ.h10 (hall 10 (by decide))
        have HBE := hid hJ.bel
        have HBB := hid hbb
        have HP2 := hid (HPK.out.below hJ.bel)
        refine hK3 _ _ ?_
        clear hK3 hJ hr hall hbb
        cases mo with
        | true =>
          obtain ⟨ry, hry⟩ : ∃ ry, IntKind.i64.wrap ((kp : Int) + 1 - ma) = ry := ⟨_, rfl⟩
          obtain ⟨rz, hrz⟩ : ∃ rz, IntKind.i64.wrap (fy - mb) = rz := ⟨_, rfl⟩
          have e0 := HBB.out.cell 0
          have e1 := HBB.out.cell 1
          have d0 := HP2.out.b4.cell 0
          have d1 := HP2.out.b4.cell 1
          have d2 := HP2.out.b4.cell 2
          have d3 := HP2.out.b4.cell 3
          simp only [List.getElem?_toArray, List.getElem?_cons_zero, List.getElem?_cons_succ] at d0 d1 d2 d3 e0 e1
          have g0 := HP2.out.b4.frozen 0
          have g1 := HP2.out.b4.frozen 1
          have g2 := HP2.out.b4.frozen 2
          have g3 := HP2.out.b4.frozen 3
          have d5 := HP2.out.b5.cell
          have g5 := HP2.out.b5.frozen
          have l4 := HP2.out.b4.lt
          have l5 := HP2.out.b5.lt
          have lb := HBB.out.lt
          have c9 := HP2.out.bn.cell
          have l9 := HP2.out.bn.lt
          have c10 := HP2.out.bf.cell
          have l10 := HP2.out.bf.lt
          have n45 : r5 ≠ r4 := by have := HJO.out.o; omega
          gi_wp2_with fail
          obtain ⟨x4, x5, xk, xf⟩ := gst_laws (lo := w.heap.size) (B := w3.heap.size) HP2.out.b4 HP2.out.b5 (by have := HJO.out.o; omega) (by have := HJO.out.o; omega) n45 (.int .i64 ma) (.int .i64 ry) (.int .i64 rz) (.bool false) (.int .i64 0)
          exact ⟨HFb.out.trans ((keepsFrom_below HBE.out).trans xf), rfl, HP2.out.bel.trans xk.low, .inr ⟨_, _, _, x4, x5⟩⟩
        | false =>
          gi_upto_region 17 with fail
          refine wpIn_region_any (by kernel_rfl) ?_
          refine wpAnyIn_inv (fun L a' w' => (∃ v63 v64 v65 v66 v67 v68 v69, a' = { tmps := #[(.agg #[.int .i64 g.n, .slice a g.es.length cap]), (.slice da N dc), (.pointer (some ⟨w.heap.size, 0, none⟩)), undef, (.pointer (some ⟨r4, 0, none⟩)), (.pointer (some ⟨r5, 0, none⟩)), (.int .i64 0), (.pointer (some ⟨k7, 0, none⟩)), (.pointer (some ⟨s8, 0, none⟩)), (.pointer (some ⟨n9, 0, none⟩)), (.pointer (some ⟨f10, 0, none⟩)), (.slice la RL.length lc), (.slice xa N xc), (.pointer (some ⟨bb, 0, none⟩)), (.bool false), (.agg #[.int .i64 g.n, .slice a g.es.length cap]), (.slice da N dc), (.int .i64 0), (.int .i64 0), (.bool false), undef, undef, (.map (some m)), (.func (.func 41) #[] #[]), (.slice da N dc), (KV), (.agg #[.int .i64 0, .int .i64 0]), (.map (some m)), (.agg #[.int .i64 g.n, .slice a g.es.length cap]), (.pointer (some ⟨b, 0, none⟩)), (.slice da N dc), (.func (.func 66) #[] #[.pointer (some ⟨W7.heap.size, 0, none⟩), .pointer (some ⟨W7.heap.size + 1, 0, none⟩)]), (.slice la RL.length lc), (.slice xa N xc), (.int .i64 kp), (.int .i64 ((kp : Int) + 1)), (.int .i64 fx), (.slice la RL.length lc), (.int .i64 RL.length), (.int .i64 fy), (.int .i64 ((kp : Int) + 1)), (.bool false), undef, (v43), (v44), (v45), (v46), (v47), (v48), (v49), (v50), (.bool false), undef, undef, undef, undef, undef, undef, undef, undef, undef, undef, undef, (v63), (v64), (v65), (v66), (v67), (v68), (v69), undef, undef, undef, undef, undef, undef], defers := [] } ∧ J17 w2 m (.slice xa N xc) ((kp : Int) + 1) fy L v63 v64 v65 v66 v67 v68 v69 w') ∨ ((∀ k, k < 8 → L.getD k false = true) ∧ Fin17 w2 m (kp + 1 + 1) w')) ?step2 ?fin2 _ _ _ _ (by simp) (.inl ⟨undef, undef, undef, undef, undef, undef, undef, rfl, J17.init rfl (fun k => rep_false 8 k) (Below.drew (Below.refl _ _))⟩)
          case step2 =>
            rintro L a' w4 i (⟨v63, v64, v65, v66, v67, v68, v69, rfl, hJ⟩ | ⟨hall, _⟩) hi
            case inr => exact absurd (hall i (ready_lt hi)) (ready_un hi)
            have HJ := hid hJ
            have HP4 := hid (HP2.out.below hJ.bel)
            have hilt : i < 8 := ready_lt hi
            obtain rfl | rfl | rfl | rfl | rfl | rfl | rfl | rfl := (show i = 0 ∨ i = 1 ∨ i = 2 ∨ i = 3 ∨ i = 4 ∨ i = 5 ∨ i = 6 ∨ i = 7 by omega)
            · have c8 := HP4.out.bs.cell
              have l8 := HP4.out.bs.lt
              clear hJ
              refine wpOpIn_one rfl ?_ rfl
              gi_wp2_with fail
              exact .inl ⟨_, _, _, _, _, _, _, rfl, HJ.out.op0 _ rfl⟩
            · have c7 := HP4.out.bk.cell
              have l7 := HP4.out.bk.lt
              clear hJ
              refine wpOpIn_one rfl ?_ rfl
              gi_wp2_with fail
              exact .inl ⟨_, _, _, _, _, _, _, rfl, HJ.out.op1 _ rfl⟩
            · clear hJ
              refine wpOpIn_one rfl ?_ rfl
              gi_wp2_with fail
              exact .inl ⟨_, _, _, _, _, _, _, rfl, HJ.out.op2 _ rfl⟩
            · have HL1 := hid (ready_dep (k := 1) hi (by kernel_rfl))
              have HL2 := hid (ready_dep (k := 2) hi (by kernel_rfl))
              obtain rfl := HJ.out.h1 HL1.out
              obtain rfl := HJ.out.h2 HL2.out
              have hkc := hid (HKC.out w4 (up HBE.out hJ.bel))
              clear hJ
              refine wpOpIn_one rfl ?_ rfl
              gi_wp2_with fail
              refine ⟨trivial, ?_⟩
              refine (show CallsIn (Fence.wide.inRound l) _ _ _ _ _ _ from callsIn_wide.2 hkc.out).mono ?_
              rintro e w3' ⟨rfl, hB⟩
              dsimp only
              gi_wp2_with fail
              exact .inl ⟨_, _, _, _, _, _, _, rfl, (HJ.out.mono hB).op3 _ ⟨HKEY.out, HL1.out, HL2.out⟩⟩
            · have c9 := HP4.out.bn.cell
              have l9 := HP4.out.bn.lt
              clear hJ
              refine wpOpIn_one rfl ?_ rfl
              gi_wp2_with fail
              exact .inl ⟨_, _, _, _, _, _, _, rfl, HJ.out.op4 _ rfl⟩
            · have c10 := HP4.out.bf.cell
              have l10 := HP4.out.bf.lt
              clear hJ
              refine wpOpIn_one rfl ?_ rfl
              gi_wp2_with fail
              exact .inl ⟨_, _, _, _, _, _, _, rfl, HJ.out.op5 _ rfl⟩
            · have HL1 := hid (ready_dep (k := 4) hi (by kernel_rfl))
              have HL2 := hid (ready_dep (k := 5) hi (by kernel_rfl))
              obtain rfl := HJ.out.h4 HL1.out
              obtain rfl := HJ.out.h5 HL2.out
              clear hJ
              refine wpOpIn_one rfl ?_ rfl
              gi_wp2_with fail
              exact .inl ⟨_, _, _, _, _, _, _, rfl, HJ.out.op6 _ ⟨rfl, HL1.out, HL2.out⟩⟩
            · have q0 := ready_dep (k := 0) hi (by kernel_rfl)
              have q3 := ready_dep (k := 3) hi (by kernel_rfl)
              have q6 := ready_dep (k := 6) hi (by kernel_rfl)
              obtain rfl := HJ.out.h0 q0
              obtain ⟨hk3, q1, q2⟩ := HJ.out.h3 q3
              obtain ⟨rfl, q4, q5⟩ := HJ.out.h6 q6
              obtain ⟨kl2, hkl2⟩ := hk3.lit
              obtain ⟨D2, hD2⟩ := HP4.out.mp
              have hsz := hJ.sz
              have HALL : Hid (∀ k, k < 8 → (L.setIfInBounds 7 true).getD k false = true) := fun k hk => by
                obtain rfl | rfl | rfl | rfl | rfl | rfl | rfl | rfl := (show k = 0 ∨ k = 1 ∨ k = 2 ∨ k = 3 ∨ k = 4 ∨ k = 5 ∨ k = 6 ∨ k = 7 by omega)
                · exact gup q0
                · exact gup q1
                · exact gup q2
                · exact gup q3
                · exact gup q4
                · exact gup q5
                · exact gup q6
                · rw [getD_listed (by omega)]; simp
              refine wpOpIn_one rfl ?_ rfl
              refine wpListIn_mapUpdate_own _ rfl _ _ _ 86 rfl _ _ K_pile und_seen markElem m _ D2 rfl hD2 (by unfold maxLen; have := HKL.out; omega) _ _ kl2 rfl rfl hkl2 (.agg []) [] (markElem_mk _ _) ?_
              intro w5 hown hgr
              exact .inr ⟨HALL.out, w4, HJ.out.bel, hgr, owns_isMap hD2, _, hown⟩
          case fin2 =>
            rintro L a' w4 (⟨v63, v64, v65, v66, v67, v68, v69, rfl, hJ⟩ | ⟨_, Wm, hBm, hgr, hmc, D3, hD3⟩) hr
            · have := ready_nil_allM (by kernel_rfl) hJ.sz hr 7 (by decide)
              rw [hJ.h7] at this
              cases this
            · have hP := HP2.out.below hBm
              have ho := HJO.out.o
              have hs0 := HP2.out.bel.size
              have hs1 := hBm.size
              have hk := keptC_map (n₀ := w.heap.size) (by omega) hgr hmc (by omega) (fun _ => False)
              refine ⟨HFb.out.trans ((keepsFrom_below HBE.out).trans ((keepsFrom_below hBm).trans (keepsFrom_map hgr (by omega)))), HKb.out.trans ((keptC_below HPK.out.bel.size HBE.out _).trans ((keptC_below hs0 hBm _).trans (keptC_map (by omega) hgr hmc (by omega) _))), ?_⟩
              refine ⟨hk.blk hP.b4 (fun h => h), boxed_keptC hP.b5 hk (fun h => h), boxed_keptC hP.bk hk (fun h => h), boxed_keptC hP.bs hk (fun h => h), ?_, ⟨_, boxed_keptC hP.bf hk (fun h => h)⟩, ⟨D3, ?_⟩, ?_, hP.bel.trans hk.low⟩
              · rw [HLEN.out]
                have := boxed_keptC hP.bn hk (fun h => h)
                rw [Int.natCast_add]
                exact this
              · rw [HLEN.out]; exact hD3
              · rw [HLEN.out]; exact HOV.out
  case done =>
    clear HSEQ HI0
    rintro D xs W hD hS hI hK
    have HI := hid hI
    have HSX := hid hS
    have HK := hid hK
    have HD := hid hD
    show K2 _ _
    refine hK2 _ _ ?_
    have hle := hI.le
    have c9 := hI.bn.cell
    have l9 := hI.bn.lt
    have d0 := hI.b4.cell 0
    have d1 := hI.b4.cell 1
    have d2 := hI.b4.cell 2
    have d3 := hI.b4.cell 3
    simp only [List.getElem?_toArray, List.getElem?_cons_zero, List.getElem?_cons_succ] at d0 d1 d2 d3
    have g0 := hI.b4.frozen 0
    have g1 := hI.b4.frozen 1
    have g2 := hI.b4.frozen 2
    have g3 := hI.b4.frozen 3
    have d5 := hI.b5.cell
    have g5 := hI.b5.frozen
    have l4 := hI.b4.lt
    have l5 := hI.b5.lt
    have n45 : r5 ≠ r4 := by have := HJO.out.o; omega
    have wk : IntKind.i64.wrap ((xs.length : Int) + 1) = (xs.length : Int) + 1 := IntWalk.i64_in _ (by omega)
    clear hK2 hI hS hK hD hN0 hN12
    generalize xs.length = kx at *
    by_cases hov : 4096 < kx + 1
    · have hov' : (4096 : Int) < (kx : Int) + 1 := by omega
      go_wp2_with fail
      obtain ⟨x4, x5, xk, xf⟩ := gst_laws (lo := w.heap.size) (B := w3.heap.size) HI.out.b4 HI.out.b5 (by have := HJO.out.o; omega) (by have := HJO.out.o; omega) n45 (.int .i64 0) (.int .i64 0) (.int .i64 0) (.bool false) (.int .i64 12)
      have hk2 := xf.same D _ HD.out HK.out rfl
      have hkc : KeptC w.heap.size (fun _ => False) _ _ := KeptC.book HWW.out (gst W r4 r5 (.int .i64 0) (.int .i64 0) (.int .i64 0) (.bool false) (.int .i64 12)) D _ (.deferred none) HD.out hk2 rfl rfl
      refine ⟨by simp, .inl ⟨_, _, rfl, run_takeDeferred (P := Try.prog) hk2, ?_⟩⟩
      exact ⟨_, results_cell2 rfl rfl rfl (load_game (hkc.blk x4 (fun h => h))) (load_er (boxed_keptC x5 hkc (fun h => h))), (HI.out.bel.trans xk.low).trans hkc.low, .inl rfl⟩
    · have hov' : ¬ (4096 : Int) < (kx : Int) + 1 := by omega
      go_wp2_with fail
      obtain ⟨x4, x5, xk, xf⟩ := gst_laws (lo := w.heap.size) (B := w3.heap.size) HI.out.b4 HI.out.b5 (by have := HJO.out.o; omega) (by have := HJO.out.o; omega) n45 (.int .i64 kx) (.int .i64 1) (.int .i64 0) (.bool true) (.int .i64 0)
      have hk2 := xf.same D _ HD.out HK.out rfl
      have hkc : KeptC w.heap.size (fun _ => False) _ _ := KeptC.book HWW.out (gst W r4 r5 (.int .i64 kx) (.int .i64 1) (.int .i64 0) (.bool true) (.int .i64 0)) D _ (.deferred none) HD.out hk2 rfl rfl
      refine ⟨by simp, .inl ⟨_, _, rfl, run_takeDeferred (P := Try.prog) hk2, ?_⟩⟩
      exact ⟨_, results_cell2 rfl rfl rfl (load_game (hkc.blk x4 (fun h => h))) (load_er (boxed_keptC x5 hkc (fun h => h))), (HI.out.bel.trans xk.low).trans hkc.low, .inr (.inr ⟨kx, hle, HSX.out, rfl⟩)⟩
  case stop =>
    rintro D c pre W hD ⟨rfl, hpx⟩ hK
    clear HSEQ HI0 hK2
    gi_wp2
    have hkc : KeptC w.heap.size (fun _ => False) W (W.putObj D (.deferred none)) := KeptC.book HWW.out W D _ _ hD hK rfl rfl
    refine ⟨by simp, .inl ⟨_, _, rfl, run_takeDeferred (P := Try.prog) hK, ?_⟩⟩
    obtain ⟨hB, h⟩ := hpx.keptC HJO.out hkc (fun k h => h.elim)
    rcases h with ⟨h4, h5⟩ | ⟨x, y, z, h4, h5⟩
    · exact ⟨_, results_cell2 rfl rfl rfl (load_game h4) (load_er h5), hB, .inl rfl⟩
    · exact ⟨_, results_cell2 rfl rfl rfl (load_game h4) (load_er h5), hB, .inr (.inl ⟨_, _, _, rfl⟩)⟩

end Go.Proofs.Ytbjoblkigbphhaa
