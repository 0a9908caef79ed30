/-
  The pile of stabilize in memory; contracts: unstable, wait, slices.Index, next.
-/
import Derived.Test.YtbjoblkigbphhaaGreatAb
import Derived.Test.YtbjoblkigbphhaaGreatR21e
namespace Go.Proofs.YtbjoblkigbphhaaGreat
set_option linter.unusedVariables false
open Go.RowKit

structure PFr where
  b : Nat
  bd : Nat
  cd : Nat
  bv : Nat
  bf : Nat
  go : Nat
  co : Nat
  bs : Nat → Nat
  N : Nat
  q : Nat
  g : G
  W0 : World
def pCells (f : PFr) (tot : Int) (wt : Nat → Bool) : Array Value :=
  #[.slice (some ⟨f.bd, 0, none⟩) f.N f.cd, .int .i64 f.q, .slice (some ⟨f.go, 0, none⟩) f.N f.co, .slice (some ⟨f.bv, 0, none⟩) f.N f.N, .slice (some ⟨f.bf, 0, none⟩) f.N f.N, .int .i64 tot,
    .bool (wt 0), .bool (wt 1), .bool (wt 2), .bool (wt 3), .bool (wt 4), .bool (wt 5), .bool (wt 6), .bool (wt 7), .bool (wt 8), .bool (wt 9), .bool (wt 10), .bool (wt 11)]
theorem pCells_tot (f : PFr) (tot x : Int) (wt : Nat → Bool) : (pCells f tot wt).setIfInBounds 5 (.int .i64 x) = pCells f x wt := by simp [pCells]
theorem pCells_wt (f : PFr) (tot : Int) (wt : Nat → Bool) (x : Bool) : ∀ u, u < 12 → (pCells f tot wt).setIfInBounds (6 + u) (.bool x) = pCells f tot (fun i => if i = u then x else wt i)
  | 0, _ => by simp [pCells]
  | 1, _ => by simp [pCells]
  | 2, _ => by simp [pCells]
  | 3, _ => by simp [pCells]
  | 4, _ => by simp [pCells]
  | 5, _ => by simp [pCells]
  | 6, _ => by simp [pCells]
  | 7, _ => by simp [pCells]
  | 8, _ => by simp [pCells]
  | 9, _ => by simp [pCells]
  | 10, _ => by simp [pCells]
  | 11, _ => by simp [pCells]
  | n + 12, h => by omega
theorem pCells_at (f : PFr) (tot : Int) (wt : Nat → Bool) : ∀ u, u < 12 → (pCells f tot wt)[6 + u]? = some (.bool (wt u))
  | 0, _ => by simp [pCells]
  | 1, _ => by simp [pCells]
  | 2, _ => by simp [pCells]
  | 3, _ => by simp [pCells]
  | 4, _ => by simp [pCells]
  | 5, _ => by simp [pCells]
  | 6, _ => by simp [pCells]
  | 7, _ => by simp [pCells]
  | 8, _ => by simp [pCells]
  | 9, _ => by simp [pCells]
  | 10, _ => by simp [pCells]
  | 11, _ => by simp [pCells]
  | n + 12, h => by omega

/-- The pile, in memory. -/
structure PiI (f : PFr) (w : World) (L T : Nat → Int) (tot : Int) (wt : Nat → Bool) : Prop where
  blk : Blk w f.b (pCells f tot wt) 62
  left : w.ownsRow f.W0.heap.size 3 1 (.slice (some ⟨f.bd, 0, none⟩) f.N f.cd) f.N ((vecOf f.N L).map (Value.int .i64))
  vals : w.ownsRow f.W0.heap.size 3 1 (.slice (some ⟨f.bv, 0, none⟩) f.N f.N) f.N ((vecOf f.N fun v => valence f.g v).map (Value.int .i64))
  fired : w.ownsRow f.W0.heap.size 3 1 (.slice (some ⟨f.bf, 0, none⟩) f.N f.N) f.N ((vecOf f.N T).map (Value.int .i64))
  rows : OwnM 25 3 w f.W0.heap.size (.slice (some ⟨f.go, 0, none⟩) f.N f.co) f.N f.N f.bs (rowsF f.g)
  hb : f.W0.heap.size ≤ f.b
  below : Below f.W0.heap.size f.W0 w
  d1 : f.bd ≠ f.bv
  d2 : f.bd ≠ f.bf
  d3 : f.bv ≠ f.bf
  r1 : ∀ i, i < f.N → f.bs i ≠ f.bd
  r2 : ∀ i, i < f.N → f.bs i ≠ f.bv
  r3 : ∀ i, i < f.N → f.bs i ≠ f.bf
  gok : Gok f.g
  hn : f.g.n = f.N
section
variable {f : PFr} {w w' : World} {L T : Nat → Int} {tot : Int} {wt : Nat → Bool}
theorem PiI.N12 (h : PiI f w L T tot wt) : 1 ≤ f.N ∧ f.N ≤ 12 := by have := h.gok.n; have := h.hn; omega
theorem PiI.mono (h : PiI f w L T tot wt) (hB : Below w.heap.size w w') : PiI f w' L T tot wt :=
  ⟨h.blk.below hB, owns_below h.left hB, owns_below h.vals hB, owns_below h.fired hB, h.rows.below hB, h.hb, h.below.trans (hB.mono h.below.size), h.d1, h.d2, h.d3, h.r1, h.r2, h.r3, h.gok, h.hn⟩
theorem PiI.drew (h : PiI f w L T tot wt) : PiI f w.drew L T tot wt := h.mono (Below.drew (Below.refl _ _))
theorem PiI.ne (h : PiI f w L T tot wt) : f.bd ≠ f.b ∧ f.bv ≠ f.b ∧ f.bf ≠ f.b ∧ f.go ≠ f.b ∧ ∀ i, i < f.N → f.bs i ≠ f.b :=
  ⟨owns_blk h.blk h.left (by decide) _ rfl, owns_blk h.blk h.vals (by decide) _ rfl, owns_blk h.blk h.fired (by decide) _ rfl, owns_blk h.blk h.rows.outer (by decide) _ rfl, fun i hi => owns_blk h.blk (h.rows.row i hi) (by decide) _ rfl⟩
theorem PiI.go (h : PiI f w L T tot wt) : f.go ≠ f.bd ∧ f.go ≠ f.bv ∧ f.go ≠ f.bf := ⟨owns_differ h.rows.outer h.left (by decide), owns_differ h.rows.outer h.vals (by decide), owns_differ h.rows.outer h.fired (by decide)⟩
theorem PiI.rowsSet (h : PiI f w L T tot wt) (k : Nat) (h1 : f.go ≠ k) (h2 : ∀ i, i < f.N → f.bs i ≠ k) (o : Nat) (v : Value) : OwnM 25 3 (w.setCell ⟨k, o, none⟩ v) f.W0.heap.size (.slice (some ⟨f.go, 0, none⟩) f.N f.co) f.N f.N f.bs (rowsF f.g) :=
  h.rows.kept (grown_set w k o v) (.inr (fun e => h1 (Option.some.inj e))) (fun i hi e => h2 i hi (Option.some.inj e).symm)
theorem PiI.setL (h : PiI f w L T tot wt) (u : Nat) (x : Int) : PiI f (w.setCell ⟨f.bd, u, none⟩ (.int .i64 x)) (fun i => if i = u then x else L i) T tot wt := by
  obtain ⟨n1, n2, n3, n4, n5⟩ := h.ne
  have l1 := (owns_lt h.left).1
  refine ⟨h.blk.other n1.symm u _, ?_, owns_other h.vals h.d1.symm u _, owns_other h.fired h.d2.symm u _, h.rowsSet _ h.go.1 h.r1 u _, h.hb, h.below.setCell (by exact l1) _, h.d1, h.d2, h.d3, h.r1, h.r2, h.r3, h.gok, h.hn⟩
  have := owns_set h.left u x
  rwa [vecOf_set] at this
theorem PiI.setF (h : PiI f w L T tot wt) (u : Nat) (x : Int) : PiI f (w.setCell ⟨f.bf, u, none⟩ (.int .i64 x)) L (fun i => if i = u then x else T i) tot wt := by
  obtain ⟨n1, n2, n3, n4, n5⟩ := h.ne
  have l1 := (owns_lt h.fired).1
  refine ⟨h.blk.other n3.symm u _, owns_other h.left h.d2 u _, owns_other h.vals h.d3 u _, ?_, h.rowsSet _ h.go.2.2 h.r3 u _, h.hb, h.below.setCell (by exact l1) _, h.d1, h.d2, h.d3, h.r1, h.r2, h.r3, h.gok, h.hn⟩
  have := owns_set h.fired u x
  rwa [vecOf_set] at this
theorem PiI.setTot (h : PiI f w L T tot wt) (x : Int) : PiI f (w.setCell ⟨f.b, 5, none⟩ (.int .i64 x)) L T x wt := by
  obtain ⟨n1, n2, n3, n4, n5⟩ := h.ne
  refine ⟨?_, owns_other h.left n1 _ _, owns_other h.vals n2 _ _, owns_other h.fired n3 _ _, h.rowsSet _ n4 n5 _ _, h.hb, h.below.setCell (by exact h.hb) _, h.d1, h.d2, h.d3, h.r1, h.r2, h.r3, h.gok, h.hn⟩
  have := h.blk.set 5 (.int .i64 x)
  rwa [pCells_tot] at this
theorem PiI.setW (h : PiI f w L T tot wt) (u : Nat) (hu : u < 12) (x : Bool) : PiI f (w.setCell ⟨f.b, 6 + u, none⟩ (.bool x)) L T tot (fun i => if i = u then x else wt i) := by
  obtain ⟨n1, n2, n3, n4, n5⟩ := h.ne
  refine ⟨?_, owns_other h.left n1 _ _, owns_other h.vals n2 _ _, owns_other h.fired n3 _ _, h.rowsSet _ n4 n5 _ _, h.hb, h.below.setCell (by exact h.hb) _, h.d1, h.d2, h.d3, h.r1, h.r2, h.r3, h.gok, h.hn⟩
  have := h.blk.set (6 + u) (.bool x)
  rwa [pCells_wt f tot wt x u hu] at this
theorem PiI.congr {L' T' : Nat → Int} {wt' : Nat → Bool} (h : PiI f w L T tot wt) (hL : ∀ u, u < f.N → L u = L' u) (hT : ∀ u, u < f.N → T u = T' u) (hw : ∀ u, u < 12 → wt u = wt' u) : PiI f w L' T' tot wt' := by
  refine ⟨?_, ?_, h.vals, ?_, h.rows, h.hb, h.below, h.d1, h.d2, h.d3, h.r1, h.r2, h.r3, h.gok, h.hn⟩
  · have e : pCells f tot wt = pCells f tot wt' := by
      unfold pCells
      rw [hw 0 (by omega), hw 1 (by omega), hw 2 (by omega), hw 3 (by omega), hw 4 (by omega), hw 5 (by omega), hw 6 (by omega), hw 7 (by omega), hw 8 (by omega), hw 9 (by omega), hw 10 (by omega), hw 11 (by omega)]
    rw [← e]; exact h.blk
  · rw [← vecOf_congr f.N L L' hL]; exact h.left
  · rw [← vecOf_congr f.N T T' hT]; exact h.fired
theorem PiI.cells (h : PiI f w L T tot wt) : w.cell? ⟨f.b, 0, none⟩ = some (.slice (some ⟨f.bd, 0, none⟩) f.N f.cd) ∧ w.cell? ⟨f.b, 1, none⟩ = some (.int .i64 f.q) ∧ w.cell? ⟨f.b, 2, none⟩ = some (.slice (some ⟨f.go, 0, none⟩) f.N f.co) ∧
    w.cell? ⟨f.b, 3, none⟩ = some (.slice (some ⟨f.bv, 0, none⟩) f.N f.N) ∧ w.cell? ⟨f.b, 4, none⟩ = some (.slice (some ⟨f.bf, 0, none⟩) f.N f.N) ∧ w.cell? ⟨f.b, 5, none⟩ = some (.int .i64 tot) := by
  refine ⟨?_, ?_, ?_, ?_, ?_, ?_⟩ <;> (rw [h.blk.cell]; simp [pCells])
theorem PiI.wtAt (h : PiI f w L T tot wt) (u : Nat) (hu : u < 12) : w.cell? ⟨f.b, 6 + u, none⟩ = some (.bool (wt u)) := by rw [h.blk.cell, pCells_at f tot wt u hu]
theorem PiI.leftAt (h : PiI f w L T tot wt) (u : Nat) (hu : u < f.N) : w.cell? ⟨f.bd, u, none⟩ = some (.int .i64 (L u)) := by rw [owns_int h.left u hu, vecOf_get _ _ _ hu]
theorem PiI.valsAt (h : PiI f w L T tot wt) (u : Nat) (hu : u < f.N) : w.cell? ⟨f.bv, u, none⟩ = some (.int .i64 (valence f.g u)) := by rw [owns_int h.vals u hu, vecOf_get _ _ _ hu]
theorem PiI.firedAt (h : PiI f w L T tot wt) (u : Nat) (hu : u < f.N) : w.cell? ⟨f.bf, u, none⟩ = some (.int .i64 (T u)) := by rw [owns_int h.fired u hu, vecOf_get _ _ _ hu]
end

/-- The first true one from k on, f of them; or -1. -/
def firstT (p : Nat → Bool) : Nat → Nat → Int
  | _, 0 => -1
  | k, f + 1 => if p k then k else firstT p (k + 1) f

set_option maxRecDepth 100000 in
set_option maxHeartbeats 1000000 in
theorem c_IndexB (wt : Nat → Bool) (b off n cap : Nat) (w : World) (hc : ∀ u, u < n → w.cell? ⟨b, off + u, none⟩ = some (.bool (wt u))) (hn : n ≤ 1000) :
    Calls Tryz.prog 96 #[.slice (some ⟨b, off, none⟩) n cap, .bool true] w fun e w' => e = .returned (.int .i64 (firstT wt 0 n)) ∧ w = w' := by
  generalize hz : firstT wt 0 n = z
  have HZ : Hid (firstT wt 0 (n - 0) = z) := hz
  have HC := hid hc
  have HN := hid hn
  clear hz hc hn
  go_enter Tryz.func96, Tryz.ntmps96
  go_wp2
  go_loopw [8] (fun i wr => ∃ k : Nat, k ≤ n ∧ i = .int .i64 k ∧ Hid (firstT wt k (n - k) = z) ∧ Hid (w = wr)) (fun i _ => n - (intOf i).toNat)
  case atStart => exact ⟨0, Nat.zero_le _, rfl, HZ, rfl⟩
  case round =>
    clear HZ
    obtain ⟨k, hk, rfl, HZ, HE⟩ := hrel
    obtain rfl := HE.out
    by_cases hlt : k < n
    · have c1 := HC.out k hlt
      have hlt' : (k : Int) < (n : Int) := by omega
      have hk0 : (0 : Int) ≤ (k : Int) := by omega
      have hst : Hid (firstT wt k (n - k) = if wt k then (k : Int) else firstT wt (k + 1) (n - (k + 1))) := by
        show _ = _
        rw [show n - k = (n - (k + 1)) + 1 by omega]
        rfl
      cases hw : wt k with
      | true =>
        rw [hw] at c1
        have hf : Hid (z = (k : Int)) := by show _ = _; rw [← HZ.out, hst.out, hw]; rfl
        clear hst hw
        go_wp2
        go_ret
        exact ⟨by rw [hf.out]; rfl, rfl⟩
      | false =>
        rw [hw] at c1
        have hf : Hid (firstT wt (k + 1) (n - (k + 1)) = z) := by show _ = _; rw [← HZ.out, hst.out, hw]; rfl
        have wk : IntKind.i64.wrap ((k : Int) + 1) = (k : Int) + 1 := IntWalk.i64_in _ (by have := HN.out; omega)
        clear hst hw
        go_wp2
        go_roundw
        case rel => exact ⟨k + 1, by omega, by go_num, hf, True.intro⟩
        case measure => simp [intOf]; omega
    · have hf : Hid (z = -1) := by show _ = _; rw [← HZ.out, show n - k = 0 by omega]; rfl
      have hlt' : ¬ (k : Int) < (n : Int) := by omega
      go_wp2
      go_ret
      exact ⟨by rw [hf.out]; rfl, rfl⟩

set_option maxRecDepth 100000 in
set_option maxHeartbeats 1000000 in
theorem p_unst (f : PFr) (w : World) (L T : Nat → Int) (tot : Int) (wt : Nat → Bool) (h : PiI f w L T tot wt) (v : Nat) (hv : v < f.N) :
    Calls Tryz.prog 95 #[.pointer (some ⟨f.b, 0, none⟩), .int .i64 v] w fun e w' => e = .returned (.bool (isUnst f.g f.q L v)) ∧ Below w.heap.size w w' := by
  obtain ⟨p0, p1, p2, p3, p4, p5⟩ := h.cells
  have c1 := h.leftAt v hv
  have c2 := h.valsAt v hv
  have l0 := h.blk.lt
  have l1 := (owns_lt h.left).2
  have l2 := (owns_lt h.vals).2
  have hv0 : (0 : Int) ≤ (v : Int) := by omega
  have hv1 : (v : Int) < (f.N : Int) := by omega
  generalize hz : isUnst f.g f.q L v = z
  unfold isUnst at hz
  clear h p2 p4 p5
  generalize L v = x at *
  generalize valence f.g v = y at *
  by_cases hq : (v : Int) = (f.q : Int)
  · have hqb : ((v : Int) != (f.q : Int)) = false := by simp [hq]
    have hf : Hid (z = false) := by show _ = _; rw [← hz]; simp [hq]
    clear hz hq
    go_enter Tryz.func95, Tryz.ntmps95
    go_wp2
    go_quiet (fail)
    go_wp2
    go_ret
    exact ⟨by rw [hf.out]; rfl, below_dN (Below.refl _ _) _⟩
  · have hqb : ((v : Int) != (f.q : Int)) = true := by simp [hq]
    by_cases hx : y ≤ x
    · have hf : Hid (z = true) := by show _ = _; rw [← hz]; simp [hq, hx]
      clear hz hq
      go_enter Tryz.func95, Tryz.ntmps95
      go_wp2
      go_quiet (fail)
      go_wp2
      go_ret
      exact ⟨by rw [hf.out]; first | rfl | simp [hx] | (simp; omega), below_dN (Below.refl _ _) _⟩
    · have hf : Hid (z = false) := by show _ = _; rw [← hz]; simp [hx]
      clear hz hq
      go_enter Tryz.func95, Tryz.ntmps95
      go_wp2
      go_quiet (fail)
      go_wp2
      go_ret
      exact ⟨by rw [hf.out]; first | rfl | simp [hx] | (simp; omega), below_dN (Below.refl _ _) _⟩

set_option maxRecDepth 100000 in
set_option maxHeartbeats 1000000 in
theorem p_next (f : PFr) (w : World) (L T : Nat → Int) (tot : Int) (wt : Nat → Bool) (h : PiI f w L T tot wt) :
    Calls Tryz.prog 78 #[.pointer (some ⟨f.b, 0, none⟩)] w fun e w' => e = .returned (.int .i64 (firstT wt 0 12)) ∧ w = w' := by
  have l0 := h.blk.lt
  have hI := hid (c_IndexB wt f.b 6 12 12 w (fun u hu => h.wtAt u hu) (by omega))
  clear h
  generalize firstT wt 0 12 = z at *
  go_enter Tryz.func78, Tryz.ntmps78
  go_wp2_with (go_at_call 96; refine hI.out.mono ?_; rintro e w1 ⟨rfl, rfl⟩)
  go_ret
  exact ⟨rfl, rfl⟩

/-- wait, at vertex v. -/
theorem waitT (g : G) (q : Int) (L : Nat → Int) (wt : Nat → Bool) (v : Nat) : (fun i => if i = v then isUnst g q L v else wt i) = fun i => if i = v then isUnst g q L i else wt i := by
  funext i
  by_cases e : i = v
  · subst e; simp
  · simp [e]

set_option maxRecDepth 100000 in
set_option maxHeartbeats 1000000 in
theorem p_wait (f : PFr) (w : World) (L T : Nat → Int) (tot : Int) (wt : Nat → Bool) (h : PiI f w L T tot wt) (v : Nat) (hv : v < f.N) :
    Calls Tryz.prog 76 #[.pointer (some ⟨f.b, 0, none⟩), .int .i64 v] w fun e w' => e = .returned (.tuple #[]) ∧ PiI f w' L T tot (fun i => if i = v then isUnst f.g f.q L i else wt i) ∧ KeptB w w' (fun k => k = f.b) := by
  have l0 := h.blk.lt
  have hv12 : v < 12 := by have := h.N12; omega
  have hu := hid (fun (w1 : World) (h1 : PiI f w1 L T tot wt) => p_unst f w1 L T tot wt h1 v hv)
  have H := hid h
  have hv0 : (0 : Int) ≤ (v : Int) := by omega
  have hv1 : (v : Int) < 12 := by omega
  have hc := h.wtAt v hv12
  have hf := h.blk.frozen (6 + v)
  clear h
  generalize hz : isUnst f.g f.q L v = z at *
  have HZ := hid hz
  clear hz
  generalize hb : f.b = b at *
  have HBE := hid hb
  clear hb
  generalize wt v = y at hc
  go_enter Tryz.func76, Tryz.ntmps76
  let S : World → Prop := fun w' => Below w.heap.size w w'
  (refine wp_region_text 8 [0,1,2,3,5,6,4,7] S (by kernel_rfl) (by kernel_rfl) (by intro _ _ d _ _ h; cases d <;> exact h) ?hS ?_; rotate_left; simp only [List.map_cons, List.map_nil, List.getD_cons_zero, List.getD_cons_succ, List.drop_succ_cons, List.drop_zero])
  case hS => exact Below.drew (Below.refl _ _)
  (repeat ((refine' wpSeq_take rfl _ (by rfl) ?_ ?_; rotate_left; focus (intro w' hS; (try dsimp only at hS); have hS' := hS; go_simp; (first | done | with_reducible rfl)); (try simp only [Act.put, List.setIfInBounds_toArray, List.set_cons_zero, List.set_cons_succ])); (try simp only [Act.put, List.setIfInBounds_toArray, List.set_cons_zero, List.set_cons_succ])))
  refine wpSeq_call rfl (by rfl) (fun K hK => ?_)
  go_simp
  refine (hu.out w.drew H.out.drew).mono ?_
  rintro e w1 ⟨rfl, hB1⟩
  have k1 : Below w.heap.size w w1 := (Below.refl _ w).drew.trans hB1
  refine hK _ _ k1 ?_
  clear hK K
  (repeat ((refine' wpSeq_take rfl _ (by rfl) ?_ ?_; rotate_left; focus (intro w' hS; (try dsimp only at hS); have hS' := hS; go_simp; (first | done | with_reducible rfl)); (try simp only [Act.put, List.setIfInBounds_toArray, List.set_cons_zero, List.set_cons_succ])); (try simp only [Act.put, List.setIfInBounds_toArray, List.set_cons_zero, List.set_cons_succ])))
  refine wpSeq_nil ?_
  clear S
  have e1 := (k1.cell (p := ⟨b, 6 + v, none⟩) l0).trans hc
  have e2 := (k1.frozen (p := ⟨b, 6 + v, none⟩) l0).trans hf
  have l1 : b < w1.heap.size := by have := k1.size; omega
  have HP : Hid (PiI f (w1.setCell ⟨b, 6 + v, none⟩ (.bool z)) L T tot (fun i => if i = v then isUnst f.g f.q L i else wt i)) := by
    have := (H.out.mono k1).setW v hv12 z
    rw [HBE.out, ← HZ.out, waitT] at this
    rw [← HZ.out]
    exact this
  have HK := hid k1
  clear k1 hB1 hc hf
  go_wp2
  go_end0
  refine ⟨rfl, HP.out, by have := HK.out.size; simpa using this, fun k hk hne => ?_⟩
  rw [Below.heap_setCell _ ⟨b, 6 + v, none⟩ _ k hne]
  exact HK.out.block k hk

end Go.Proofs.YtbjoblkigbphhaaGreat
