/-
  Plain laws: the rows and the valences, as sums over the edges of a right graph.
  The state of a schedule in memory.
-/
import Derived.Test.YtbjoblkigbphhaaGreatSpec9
namespace Go.Proofs.YtbjoblkigbphhaaGreat
open Go.RowKit

def sumE (f : E → Int) : List E → Int
  | [] => 0
  | x :: l => f x + sumE f l
theorem sumE_append (f : E → Int) : ∀ a b : List E, sumE f (a ++ b) = sumE f a + sumE f b
  | [], b => by simp [sumE]
  | x :: a, b => by simp only [List.cons_append, sumE, sumE_append f a b]; omega
theorem sumE_congr (f h : E → Int) : ∀ l : List E, (∀ x ∈ l, f x = h x) → sumE f l = sumE h l
  | [], _ => rfl
  | x :: l, e => by unfold sumE; rw [sumE_congr f h l (fun y hy => e y (by simp [hy])), e x (by simp)]
theorem sumE_zero : ∀ l : List E, sumE (fun _ => 0) l = 0
  | [] => rfl
  | x :: l => by unfold sumE; rw [sumE_zero l]; rfl
theorem sumE_bd (f : E → Int) (c : Int) : ∀ l : List E, (∀ x ∈ l, 0 ≤ f x ∧ f x ≤ c) → 0 ≤ sumE f l ∧ sumE f l ≤ l.length * c
  | [], _ => by simp [sumE]
  | x :: l, h => by
    have h1 := sumE_bd f c l fun y hy => h y (by simp [hy])
    have h2 := h x (by simp)
    unfold sumE
    have : ((x :: l).length : Int) * c = l.length * c + c := by simp [Int.add_mul]
    omega
theorem sumE_sumTo (f : Nat → E → Int) (n : Nat) : ∀ l : List E, sumTo (fun k => sumE (f k) l) n = sumE (fun x => sumTo (fun k => f k x) n) l := by
  intro l
  induction n with
  | zero => simp only [sumTo]; rw [sumE_zero]
  | succ n ih =>
    simp only [sumTo]
    rw [ih]
    clear ih
    induction l with
    | nil => rfl
    | cons x l ih2 => simp only [sumE]; omega

/-- What edge x gives to place u of the row of v. -/
def rowE (v u : Nat) (x : E) : Int := if x.a = x.b then 0 else if x.a = v then (if x.b = u then x.m else 0) else if x.b = v then (if x.a = u then x.m else 0) else 0
/-- What edge x gives to the valence of u. -/
def valE (u : Nat) (x : E) : Int := if x.a = x.b then 0 else (if x.a = u then x.m else 0) + (if x.b = u then x.m else 0)
def rowTo (g : G) (v k u : Nat) : Int := sumE (rowE v u) (g.es.take k)
def valTo (g : G) (k u : Nat) : Int := sumE (valE u) (g.es.take k)
theorem rowTo_zero (g : G) (v u : Nat) : rowTo g v 0 u = 0 := by simp [rowTo, sumE]
theorem valTo_zero (g : G) (u : Nat) : valTo g 0 u = 0 := by simp [valTo, sumE]
theorem rowTo_step (g : G) (v k u : Nat) (h : k < g.es.length) : rowTo g v (k + 1) u = rowTo g v k u + rowE v u (g.es[k]?.getD default) := by
  unfold rowTo; rw [take_step _ _ h, sumE_append]; simp [sumE]
theorem valTo_step (g : G) (k u : Nat) (h : k < g.es.length) : valTo g (k + 1) u = valTo g k u + valE u (g.es[k]?.getD default) := by
  unfold valTo; rw [take_step _ _ h, sumE_append]; simp [sumE]

theorem Gok.code_lt {g : G} (h : Gok g) (i : Nat) : ∀ j, i < j → j < g.es.length → (g.es[i]?.getD default).a * 12 + (g.es[i]?.getD default).b < (g.es[j]?.getD default).a * 12 + (g.es[j]?.getD default).b
  | 0, h1, _ => by omega
  | j + 1, h1, hj => by
    have h2 := h.ends j (by omega)
    have h3 := h.ends (j + 1) hj
    have h4 := h.edge (j + 1) hj
    have hn := h.n
    have hs : (g.es[j]?.getD default).a * 12 + (g.es[j]?.getD default).b < (g.es[j + 1]?.getD default).a * 12 + (g.es[j + 1]?.getD default).b := by
      unfold edgeErr at h4
      simp only [Nat.add_sub_cancel] at h4
      generalize g.es[j]?.getD default = y at *
      generalize g.es[j + 1]?.getD default = x at *
      grind
    by_cases e : i = j
    · rw [e]; exact hs
    · have := h.code_lt i j (by omega) (by omega)
      omega
theorem Gok.pairwise {g : G} (h : Gok g) : g.es.Pairwise fun x y => ¬ (x.a = y.a ∧ x.b = y.b) := by
  rw [List.pairwise_iff_getElem]
  intro i j hi hj hij he
  have := h.code_lt i j hij hj
  simp only [List.getElem?_eq_getElem hi, List.getElem?_eq_getElem hj, Option.getD_some] at this
  omega

theorem bet_sum (lo hi : Int) : ∀ es : List E, es.Pairwise (fun x y => ¬ (x.a = y.a ∧ x.b = y.b)) → bet lo hi es = sumE (fun x => if x.a = lo ∧ x.b = hi then x.m else 0) es
  | [], _ => rfl
  | x :: es, h => by
    obtain ⟨h1, h2⟩ := List.pairwise_cons.1 h
    unfold bet sumE
    by_cases e : x.a = lo ∧ x.b = hi
    · rw [if_pos e, if_pos e, sumE_congr _ (fun _ => 0) es fun y hy => by
        have := h1 y hy
        rw [if_neg]
        rintro ⟨e1, e2⟩
        exact this ⟨e.1.trans e1.symm, e.2.trans e2.symm⟩, sumE_zero]
      omega
    · rw [if_neg e, if_neg e, bet_sum lo hi es h2]; omega

theorem rowTo_end {g : G} (h : Gok g) (v u : Nat) : rowTo g v g.es.length u = rowsF g v u := by
  unfold rowTo rowsF
  rw [List.take_length]
  by_cases e : v = u
  · subst e
    rw [if_neg (by simp), ← sumE_zero g.es]
    refine sumE_congr _ _ _ fun x _ => ?_
    unfold rowE
    split
    · rfl
    · split
      · rw [if_neg (by omega)]
      · split <;> rfl
  · rw [if_pos e]
    unfold btw
    rw [bet_sum _ _ _ h.pairwise]
    refine sumE_congr _ _ _ fun x hx => ?_
    have := h.mem hx
    unfold rowE
    grind
theorem valTo_end {g : G} (h : Gok g) (u : Nat) : valTo g g.es.length u = valence g u := by
  have e1 : valence g u = sumTo (fun k => sumE (rowE u k) g.es) g.n.toNat := by
    unfold valence
    refine sumTo_congr _ _ _ fun k _ => ?_
    have := rowTo_end h u k
    unfold rowTo at this
    rw [List.take_length] at this
    rw [this]
    unfold valTerm rowsF
    by_cases e : u = k
    · subst e; simp
    · rw [if_pos (by omega), if_pos e, btw_comm]
  rw [e1, sumE_sumTo]
  unfold valTo
  rw [List.take_length]
  refine sumE_congr _ _ _ fun x hx => ?_
  have hm := h.mem hx
  have hn := h.n
  unfold valE
  by_cases e : x.a = x.b
  · rw [if_pos e]
    have : (fun k => rowE u k x) = fun _ => (0 : Int) := by funext k; unfold rowE; rw [if_pos e]
    rw [this]
    have := sumTo_one 0 0 g.n.toNat
    simpa using this.symm
  · rw [if_neg e]
    by_cases ha : x.a = u
    · have : (fun k => rowE u k x) = fun k : Nat => if k = x.b.toNat then x.m else 0 := by
        funext k; unfold rowE; rw [if_neg e, if_pos ha]
        by_cases e2 : x.b = k
        · rw [if_pos e2, if_pos (by omega)]
        · rw [if_neg e2, if_neg (by omega)]
      rw [this, sumTo_one, if_pos ha, if_neg (by omega : ¬ x.b = u), if_pos (by omega)]; omega
    · rw [if_neg ha]
      by_cases hb : x.b = u
      · have : (fun k => rowE u k x) = fun k : Nat => if k = x.a.toNat then x.m else 0 := by
          funext k; unfold rowE; rw [if_neg e, if_neg ha, if_pos hb]
          by_cases e2 : x.a = k
          · rw [if_pos e2, if_pos (by omega)]
          · rw [if_neg e2, if_neg (by omega)]
        rw [this, sumTo_one, if_pos hb, if_pos (by omega)]; omega
      · have : (fun k => rowE u k x) = fun _ => (0 : Int) := by funext k; unfold rowE; rw [if_neg e, if_neg ha, if_neg hb]
        rw [this, if_neg hb]
        have := sumTo_one 0 0 g.n.toNat
        simpa using this.symm

theorem rowTo_bd {g : G} (h : Gok g) (v k u : Nat) : 0 ≤ rowTo g v k u ∧ rowTo g v k u ≤ 7200 := by
  unfold rowTo
  have h1 := sumE_bd (rowE v u) 50 (g.es.take k) fun x hx => by
    have := h.mem (List.mem_of_mem_take hx)
    unfold rowE; grind
  have h2 := h.len
  have h3 : (g.es.take k).length ≤ 144 := by rw [List.length_take]; omega
  omega
theorem valTo_bd {g : G} (h : Gok g) (k u : Nat) : 0 ≤ valTo g k u ∧ valTo g k u ≤ 14400 := by
  unfold valTo
  have h1 := sumE_bd (valE u) 100 (g.es.take k) fun x hx => by
    have := h.mem (List.mem_of_mem_take hx)
    unfold valE; grind
  have h2 := h.len
  have h3 : (g.es.take k).length ≤ 144 := by rw [List.length_take]; omega
  omega

end Go.Proofs.YtbjoblkigbphhaaGreat

namespace Go.Proofs.YtbjoblkigbphhaaGreat
open Go.RowKit

/-- Where the parts of a state lie, and what of it never turns. -/
structure Fr where
  W0 : World
  b : Nat
  bl : Nat
  cl : Nat
  bt : Nat
  ct : Nat
  bv : Nat
  cv : Nat
  N : Nat
  ev : Value
  g : G
  q : Nat
  t : TypeId

def stCells (f : Fr) (tail : List Value) : Array Value :=
  (Value.int .i64 f.g.n :: f.ev :: Value.int .i64 f.q :: Value.slice (some ⟨f.bl, 0, none⟩) f.N f.cl :: Value.slice (some ⟨f.bt, 0, none⟩) f.N f.ct :: Value.slice (some ⟨f.bv, 0, none⟩) f.N f.cv :: tail).toArray

structure StI (T0 : TypeId) (f : Fr) (w : World) (tail : List Value) (L T : Nat → Int) : Prop where
  blk : Blk w f.b (stCells f tail) f.t
  hb : f.W0.heap.size ≤ f.b
  left : w.ownsRow f.W0.heap.size T0 1 (.slice (some ⟨f.bl, 0, none⟩) f.N f.cl) f.N ((vecOf f.N L).map (Value.int .i64))
  times : w.ownsRow f.W0.heap.size T0 1 (.slice (some ⟨f.bt, 0, none⟩) f.N f.ct) f.N ((vecOf f.N T).map (Value.int .i64))
  vals : w.ownsRow f.W0.heap.size T0 1 (.slice (some ⟨f.bv, 0, none⟩) f.N f.cv) f.N ((vecOf f.N fun v => valence f.g v).map (Value.int .i64))
  n1 : f.b ≠ f.bl
  n2 : f.b ≠ f.bt
  n3 : f.b ≠ f.bv
  n4 : f.bl ≠ f.bt
  n5 : f.bl ≠ f.bv
  n6 : f.bt ≠ f.bv
  below : Below f.W0.heap.size f.W0 w
  edges : EdgesR f.W0 f.ev f.g.es
  gok : Gok f.g
  hn : f.g.n = f.N
  hq : f.q < f.N

section
variable {T0 : TypeId} {f : Fr} {w w' : World} {tail : List Value} {L T : Nat → Int}
theorem StI.N12 (h : StI T0 f w tail L T) : 1 ≤ f.N ∧ f.N ≤ 12 := by have := h.gok.n; have := h.hn; omega
theorem StI.mono (h : StI T0 f w tail L T) (hB : Below w.heap.size w w') : StI T0 f w' tail L T :=
  ⟨h.blk.below hB, h.hb, owns_below h.left hB, owns_below h.times hB, owns_below h.vals hB, h.n1, h.n2, h.n3, h.n4, h.n5, h.n6, up h.below hB, h.edges, h.gok, h.hn, h.hq⟩
theorem StI.drew (h : StI T0 f w tail L T) : StI T0 f w.drew tail L T := h.mono (Below.drew (Below.refl _ _))
theorem StI.setL (h : StI T0 f w tail L T) (u : Nat) (x : Int) : StI T0 f (w.setCell ⟨f.bl, u, none⟩ (.int .i64 x)) tail (fun i => if i = u then x else L i) T := by
  refine ⟨h.blk.other h.n1 u _, h.hb, ?_, owns_other h.times (Ne.symm h.n4) u _, owns_other h.vals (Ne.symm h.n5) u _, h.n1, h.n2, h.n3, h.n4, h.n5, h.n6, h.below.setCell (owns_lt h.left).1 _, h.edges, h.gok, h.hn, h.hq⟩
  have := owns_set h.left u x
  rwa [vecOf_set] at this
theorem StI.setT (h : StI T0 f w tail L T) (u : Nat) (x : Int) : StI T0 f (w.setCell ⟨f.bt, u, none⟩ (.int .i64 x)) tail L (fun i => if i = u then x else T i) := by
  refine ⟨h.blk.other h.n2 u _, h.hb, owns_other h.left h.n4 u _, ?_, owns_other h.vals (Ne.symm h.n6) u _, h.n1, h.n2, h.n3, h.n4, h.n5, h.n6, h.below.setCell (owns_lt h.times).1 _, h.edges, h.gok, h.hn, h.hq⟩
  have := owns_set h.times u x
  rwa [vecOf_set] at this
theorem StI.setTail (h : StI T0 f w tail L T) (i : Nat) (v : Value) : StI T0 f (w.setCell ⟨f.b, 6 + i, none⟩ v) (tail.set i v) L T := by
  refine ⟨?_, h.hb, owns_other h.left (Ne.symm h.n1) _ _, owns_other h.times (Ne.symm h.n2) _ _, owns_other h.vals (Ne.symm h.n3) _ _, h.n1, h.n2, h.n3, h.n4, h.n5, h.n6, h.below.setCell h.hb _, h.edges, h.gok, h.hn, h.hq⟩
  have := h.blk.set (6 + i) v
  unfold stCells at *
  rw [show 6 + i = i + 1 + 1 + 1 + 1 + 1 + 1 by omega] at *
  simpa [List.setIfInBounds_toArray] using this
theorem StI.congr {L' T' : Nat → Int} (h : StI T0 f w tail L T) (hL : ∀ u, u < f.N → L u = L' u) (hT : ∀ u, u < f.N → T u = T' u) : StI T0 f w tail L' T' := by
  have h3 := h.left
  have h4 := h.times
  rw [vecOf_congr _ _ _ hL] at h3
  rw [vecOf_congr _ _ _ hT] at h4
  exact ⟨h.blk, h.hb, h3, h4, h.vals, h.n1, h.n2, h.n3, h.n4, h.n5, h.n6, h.below, h.edges, h.gok, h.hn, h.hq⟩
theorem StI.lts (h : StI T0 f w tail L T) : f.b < w.heap.size ∧ f.bl < w.heap.size ∧ f.bt < w.heap.size ∧ f.bv < w.heap.size := ⟨h.blk.lt, (owns_lt h.left).2, (owns_lt h.times).2, (owns_lt h.vals).2⟩
theorem StI.cells (h : StI T0 f w tail L T) : w.cell? ⟨f.b, 0, none⟩ = some (.int .i64 f.g.n) ∧ w.cell? ⟨f.b, 1, none⟩ = some f.ev ∧ w.cell? ⟨f.b, 2, none⟩ = some (.int .i64 f.q) ∧
    w.cell? ⟨f.b, 3, none⟩ = some (.slice (some ⟨f.bl, 0, none⟩) f.N f.cl) ∧ w.cell? ⟨f.b, 4, none⟩ = some (.slice (some ⟨f.bt, 0, none⟩) f.N f.ct) ∧ w.cell? ⟨f.b, 5, none⟩ = some (.slice (some ⟨f.bv, 0, none⟩) f.N f.cv) :=
  ⟨h.blk.cell 0, h.blk.cell 1, h.blk.cell 2, h.blk.cell 3, h.blk.cell 4, h.blk.cell 5⟩
theorem StI.leftAt (h : StI T0 f w tail L T) (u : Nat) (hu : u < f.N) : w.cell? ⟨f.bl, u, none⟩ = some (.int .i64 (L u)) ∧ w.frozen? ⟨f.bl, u, none⟩ = false := by
  have c := owns_int h.left u hu
  rw [vecOf_get _ _ _ hu] at c
  exact ⟨c, h.left.frozenAt u⟩
theorem StI.timesAt (h : StI T0 f w tail L T) (u : Nat) (hu : u < f.N) : w.cell? ⟨f.bt, u, none⟩ = some (.int .i64 (T u)) ∧ w.frozen? ⟨f.bt, u, none⟩ = false := by
  have c := owns_int h.times u hu
  rw [vecOf_get _ _ _ hu] at c
  exact ⟨c, h.times.frozenAt u⟩
theorem StI.valsAt (h : StI T0 f w tail L T) (u : Nat) (hu : u < f.N) : w.cell? ⟨f.bv, u, none⟩ = some (.int .i64 (valence f.g u)) := by
  have c := owns_int h.vals u hu
  rw [vecOf_get _ _ _ hu] at c
  exact c
theorem StI.tailAt (h : StI T0 f w tail L T) (i : Nat) : w.cell? ⟨f.b, 6 + i, none⟩ = tail[i]? ∧ w.frozen? ⟨f.b, 6 + i, none⟩ = false := by
  refine ⟨?_, h.blk.frozen _⟩
  rw [h.blk.cell]
  unfold stCells
  rw [show 6 + i = i + 1 + 1 + 1 + 1 + 1 + 1 by omega]
  simp
end

end Go.Proofs.YtbjoblkigbphhaaGreat
