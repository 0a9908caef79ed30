/-
  Plain definitions and laws: what is reached from a vertex, and the number of parts, as the reference reckons them.
  Plain definitions and laws: events and picks of a schedule.
  Plain definitions and laws: vectors, the vertices that wait; one more element of an owned row.
  Plain definitions and laws: a divisor that a script has moved; the clone of a row.
  Owned matrices: a row of rows. Plain definitions and laws: settling by picks.
  Plain definitions and laws: the events of a schedule; a struct in a block of its own.
  Forests: each vertex has a vertex of its part, never a greater one.
-/
import Derived.Test.YtbjoblkigbphhaaGreatSpec
import Derived.Test.YtbjoblkigbphhaaGreatLib
namespace Go.Proofs.YtbjoblkigbphhaaGreat
open Go.RowKit

def rStp (g : G) (a b : Nat) (l : List Bool) : List Bool := if (l[a]?.getD false) && decide (0 < btw g a b) then l.set b true else l
def rB (g : G) (a : Nat) : Nat → List Bool → List Bool
  | 0, l => l
  | k + 1, l => rStp g a k (rB g a k l)
def rA (g : G) : Nat → List Bool → List Bool
  | 0, l => l
  | k + 1, l => rB g k g.n.toNat (rA g k l)
def rR (g : G) : Nat → List Bool → List Bool
  | 0, l => l
  | k + 1, l => rA g g.n.toNat (rR g k l)
def reached (g : G) (v : Int) : List Bool := rR g g.n.toNat ((List.replicate g.n.toNat false).set v.toNat true)

theorem rStp_len (g : G) (a b : Nat) (l : List Bool) : (rStp g a b l).length = l.length := by unfold rStp; split <;> simp
theorem rB_len (g : G) (a : Nat) (l : List Bool) : ∀ k, (rB g a k l).length = l.length
  | 0 => rfl
  | k + 1 => by rw [rB, rStp_len, rB_len g a l k]
theorem rA_len (g : G) (l : List Bool) : ∀ k, (rA g k l).length = l.length
  | 0 => rfl
  | k + 1 => by rw [rA, rB_len, rA_len g l k]
theorem rR_len (g : G) (l : List Bool) : ∀ k, (rR g k l).length = l.length
  | 0 => rfl
  | k + 1 => by rw [rR, rA_len, rR_len g l k]
theorem reached_len (g : G) (v : Int) : (reached g v).length = g.n.toNat := by simp [reached, rR_len]

/-- seen[u] = seen[u] or r[u], for u < k. -/
def orTo (r : List Bool) : Nat → List Bool → List Bool
  | 0, s => s
  | k + 1, s => (orTo r k s).set k (((orTo r k s)[k]?.getD false) || (r[k]?.getD false))
theorem orTo_len (r s : List Bool) : ∀ k, (orTo r k s).length = s.length
  | 0 => rfl
  | k + 1 => by simp [orTo, orTo_len r s k]
def partsTo (g : G) : Nat → Int × List Bool
  | 0 => (0, List.replicate g.n.toNat false)
  | k + 1 => if (partsTo g k).2[k]?.getD false then partsTo g k else ((partsTo g k).1 + 1, orTo (reached g k) g.n.toNat (partsTo g k).2)
def parts (g : G) : Int := (partsTo g g.n.toNat).1
theorem partsTo_len (g : G) : ∀ k, (partsTo g k).2.length = g.n.toNat
  | 0 => by simp [partsTo]
  | k + 1 => by unfold partsTo; split <;> simp [orTo_len, partsTo_len g k]
theorem partsTo_bd (g : G) : ∀ k : Nat, 0 ≤ (partsTo g k).1 ∧ (partsTo g k).1 ≤ k
  | 0 => by simp [partsTo]
  | k + 1 => by have := partsTo_bd g k; unfold partsTo; split <;> first | omega | (simp only; omega)

/-- The error of a graph with a sink. -/
def rootedErr (g : G) (q : Int) : Int := if checkErr g ≠ 0 then checkErr g else if parts g ≠ 1 then 13 else if vtx g.n q then 0 else 2

def inB (k : Int) : Bool := decide (-1048576 ≤ k) && decide (k ≤ 1048576)
/-- The error of a divisor on n vertices. -/
def dErr (ds : List Int) (n : Int) : Int := if n < 1 ∨ 12 < n then 2 else if (ds.length : Int) ≠ n then 8 else if ds.all inB then 0 else 2

/-- Does one of f i, f (i + 1), .., n of them, hold? -/
def anyFrom (f : Nat → Bool) : Nat → Nat → Bool
  | _, 0 => false
  | i, n + 1 => if f i then true else anyFrom f (i + 1) n
theorem anyFrom_step (f : Nat → Bool) (i n : Nat) (h : i < n) : anyFrom f i (n - i) = if f i then true else anyFrom f (i + 1) (n - (i + 1)) := by
  obtain ⟨k, rfl⟩ : ∃ k, n = i + k + 1 := ⟨n - i - 1, by omega⟩
  rw [show i + k + 1 - i = k + 1 by omega, show i + k + 1 - (i + 1) = k by omega]; rfl
theorem anyFrom_end (f : Nat → Bool) (i n : Nat) (h : n ≤ i) : anyFrom f i (n - i) = false := by
  rw [Nat.sub_eq_zero_of_le h]; rfl
theorem anyFrom_iff (f : Nat → Bool) : ∀ n i, anyFrom f i n = true ↔ ∃ k, i ≤ k ∧ k < i + n ∧ f k = true
  | 0, i => by simp [anyFrom]; intro k h1 h2; omega
  | n + 1, i => by
    unfold anyFrom
    split
    · rename_i h; simp only [true_iff]; exact ⟨i, Nat.le_refl _, by omega, h⟩
    · rename_i h
      rw [anyFrom_iff f n (i + 1)]
      constructor
      · rintro ⟨k, h1, h2, h3⟩; exact ⟨k, by omega, by omega, h3⟩
      · rintro ⟨k, h1, h2, h3⟩
        refine ⟨k, ?_, by omega, h3⟩
        rcases Nat.eq_or_lt_of_le h1 with e | e
        · subst e; exact absurd h3 h
        · exact e

/-- Is there a debt at v, which is not the sink? -/
def debtAt (q : Int) (ds : List Int) (v : Nat) : Bool := decide ((v : Int) ≠ q) && decide (ds[v]?.getD 0 < 0)
/-- The error of a configuration. -/
def cfgErr (g : G) (q : Int) (ds : List Int) : Int :=
  if rootedErr g q ≠ 0 then rootedErr g q else if dErr ds g.n ≠ 0 then dErr ds g.n else if anyFrom (debtAt q ds) 0 g.n.toNat then 2 else 0

theorem rooted_ok {g : G} {q : Int} (h : rootedErr g q = 0) : Gok g ∧ 0 ≤ q ∧ q < g.n := by
  unfold rootedErr at h
  unfold Gok
  by_cases hc : checkErr g = 0
  · refine ⟨hc, ?_⟩
    simp only [hc] at h
    by_cases hp : parts g = 1
    · simp [hp] at h
      unfold vtx at h
      simpa using h
    · simp [hp] at h
  · simp [hc] at h

theorem dErr_ok {ds : List Int} {n : Int} (h : dErr ds n = 0) : 1 ≤ n ∧ n ≤ 12 ∧ (ds.length : Int) = n ∧ ∀ k ∈ ds, -1048576 ≤ k ∧ k ≤ 1048576 := by
  unfold dErr at h
  by_cases h1 : n < 1 ∨ 12 < n
  · simp [h1] at h
  by_cases h2 : (ds.length : Int) = n
  · rw [if_neg h1, if_neg (by simpa using h2)] at h
    by_cases h3 : ds.all inB = true
    · refine ⟨by omega, by omega, h2, fun k hk => ?_⟩
      have := List.all_eq_true.1 h3 k hk
      simpa [inB] using this
    · simp [h3] at h
  · rw [if_neg h1, if_pos h2] at h; omega

end Go.Proofs.YtbjoblkigbphhaaGreat

namespace Go.Proofs.YtbjoblkigbphhaaGreat
open Go.RowKit

/-- v is a slice of pairs that holds ps in w. -/
def PairsR (w : World) (v : Value) (ps : List (Int × Int)) : Prop :=
  ∃ a cap, v = .slice a ps.length cap ∧ ps.length ≤ cap ∧ cap ≤ 9223372036854775807 ∧ ps.length * 16 ≤ 140737488355328 ∧ CellsAt w a (pairCells ps)

theorem PairsR.below {w w' : World} {v : Value} {ps : List (Int × Int)} (h : PairsR w v ps) (hb : Below w.heap.size w w') : PairsR w' v ps := by
  obtain ⟨a, cap, h1, h2, h3, h4, h5⟩ := h
  exact ⟨a, cap, h1, h2, h3, h4, h5.below hb⟩

theorem pairCells_length (ps : List (Int × Int)) : (pairCells ps).length = ps.length * 2 := by
  induction ps with
  | nil => rfl
  | cons x ps ih => simp only [pairCells, List.flatMap_cons, List.length_append, List.length_cons, List.length_nil] at *; omega

theorem pairCells_get (ps : List (Int × Int)) : ∀ k, k < ps.length → (pairCells ps)[k * 2]? = some (.int .i64 (ps[k]?.getD (0, 0)).1) ∧ (pairCells ps)[k * 2 + 1]? = some (.int .i64 (ps[k]?.getD (0, 0)).2) := by
  induction ps with
  | nil => intro k hk; simp at hk
  | cons x ps ih =>
    intro k hk
    cases k with
    | zero => simp [pairCells]
    | succ k =>
      have h := ih k (by simpa using hk)
      have e : pairCells (x :: ps) = [.int .i64 x.1, .int .i64 x.2] ++ pairCells ps := rfl
      rw [e, List.getElem?_append_right (by simp; omega), List.getElem?_append_right (by simp; omega)]
      simp only [List.length_cons, List.length_nil, List.getElem?_cons_succ]
      rw [show (k + 1) * 2 - (0 + 1 + 1) = k * 2 by omega, show (k + 1) * 2 + 1 - (0 + 1 + 1) = k * 2 + 1 by omega]
      exact h

theorem CellsAt.pair {w : World} {a : Option Addr} {ps : List (Int × Int)} (h : CellsAt w a (pairCells ps)) (hk : 0 < ps.length) :
    ∃ b off, a = some ⟨b, off, none⟩ ∧ b < w.heap.size ∧ ∀ k, k < ps.length → w.cell? ⟨b, off + k * 2, none⟩ = some (.int .i64 (ps[k]?.getD (0, 0)).1) ∧
      w.cell? ⟨b, off + k * 2 + 1, none⟩ = some (.int .i64 (ps[k]?.getD (0, 0)).2) := by
  rcases h with h | ⟨b, off, rfl, hl, hc⟩
  · have := pairCells_length ps; rw [h] at this; simp at this; omega
  · refine ⟨b, off, rfl, hl, fun k hk => ?_⟩
    have hl2 := pairCells_length ps
    have := pairCells_get ps k hk
    exact ⟨by rw [hc (k * 2) (by omega)]; exact this.1, by rw [Nat.add_assoc, hc (k * 2 + 1) (by omega)]; exact this.2⟩

/-- An owned row reads as its cells. -/
theorem owns_at {w : World} {base : Nat} {e : TypeId} {size : Nat} {v : Value} {n : Nat} {xs : List Value} (h : w.ownsRow base e size v n xs) :
    ∃ a cap, v = .slice a n cap ∧ n ≤ cap ∧ cap ≤ 9223372036854775807 ∧ CellsAt w a xs := by
  have hx := h.1
  rcases h.2 with ⟨rfl, rfl⟩ | ⟨g, cap, cur, rfl, hb, hg, hn, hm, hs, ht⟩
  · exact ⟨none, 0, rfl, Nat.le_refl _, by omega, .inl (List.eq_nil_of_length_eq_zero (by simpa using hx))⟩
  · refine ⟨some ⟨g, 0, none⟩, cap, rfl, hn, by unfold maxLen at hm; omega, .inr ⟨g, 0, rfl, (owns_lt h).2, fun i hi => ?_⟩⟩
    have := h.cellAt i (by rw [← hx]; exact hi)
    rwa [Nat.zero_add]

theorem owns_pairs {w : World} {base : Nat} {e : TypeId} {v : Value} {ps : List (Int × Int)} (h : w.ownsRow base e 2 v ps.length (pairCells ps)) (hb : ps.length * 16 ≤ 140737488355328) : PairsR w v ps := by
  obtain ⟨a, cap, h1, h2, h3, h4⟩ := owns_at h
  exact ⟨a, cap, h1, h2, h3, hb, h4⟩

theorem owns_ints {w : World} {base : Nat} {e : TypeId} {v : Value} {xs : List Int} (h : w.ownsRow base e 1 v xs.length (xs.map (Value.int .i64))) (hb : xs.length * 8 ≤ 140737488355328) : IntsR w v xs := by
  obtain ⟨a, cap, h1, h2, h3, h4⟩ := owns_at h
  exact ⟨a, cap, h1, h2, h3, hb, h4⟩

/-- The error of an event: (kind, value). -/
def evErr (g : G) (x : Int × Int) : Int := if x.1 ≠ 0 ∧ x.1 ≠ 1 then 1 else if x.2 < 0 ∨ x.1 = 1 ∧ ¬ vtx g.n x.2 = true then 2 else 0
def evAt (g : G) (l : List (Int × Int)) (i : Nat) : Int := evErr g (l[i]?.getD (0, 0))
def evsErr (g : G) (l : List (Int × Int)) : Int := if 4096 < l.length then 5 else firstNZ (evAt g l) 0 l.length
/-- The error of picks. -/
def pkErr (l : List Int) : Int := if 4096 < l.length then 5 else if l.length = 0 then 14 else if l.all (fun k => decide (0 ≤ k)) then 0 else 2
/-- Are there few of them, or too many? -/
def fewB (n : Nat) : Bool := decide (n ≤ 60) || (decide (4096 < n) && decide (n ≤ 8192))
def schErr (g : G) (l : List (Int × Int)) : Int := if checkErr g ≠ 0 then checkErr g else evsErr g l
/-- The error of a configuration and picks. -/
def givErr (g : G) (q : Int) (ds : List Int) (l : List Int) : Int := if cfgErr g q ds ≠ 0 then cfgErr g q ds else pkErr l

end Go.Proofs.YtbjoblkigbphhaaGreat

namespace Go.Proofs.YtbjoblkigbphhaaGreat
open Go.RowKit

/-- f 0, .., f (n - 1). -/
def vecOf (n : Nat) (f : Nat → Int) : List Int := (List.range n).map f
theorem vecOf_len (n : Nat) (f : Nat → Int) : (vecOf n f).length = n := by simp [vecOf]
theorem vecOf_get (n : Nat) (f : Nat → Int) (k : Nat) (hk : k < n) : (vecOf n f)[k]?.getD 0 = f k := by simp [vecOf, hk]
theorem vecOf_set (n : Nat) (f : Nat → Int) (k : Nat) (x : Int) : (vecOf n f).set k x = vecOf n (fun i => if i = k then x else f i) := by
  apply List.ext_getElem?
  intro i
  rw [List.getElem?_set]
  unfold vecOf
  by_cases hi : i < n
  · by_cases e : k = i
    · subst e; simp [hi]
    · have e' : ¬ i = k := fun h => e h.symm
      simp [e, e', hi]
  · by_cases e : k = i
    · subst e; simp [hi]
    · simp [e, hi]
theorem vecOf_congr (n : Nat) (f g : Nat → Int) (h : ∀ k, k < n → f k = g k) : vecOf n f = vecOf n g := by
  unfold vecOf
  exact List.map_congr_left fun k hk => h k (List.mem_range.1 hk)
theorem vecOf_self (ds : List Int) : vecOf ds.length (fun i => ds[i]?.getD 0) = ds := by
  apply List.ext_getElem?
  intro i
  unfold vecOf
  by_cases hi : i < ds.length <;> simp [hi]

/-- The numbers below k with p, as integers. -/
def waitTo (p : Nat → Bool) (k : Nat) : List Int := ((List.range k).filter p).map fun v : Nat => (v : Int)
theorem waitTo_succ (p : Nat → Bool) (k : Nat) : waitTo p (k + 1) = if p k then waitTo p k ++ [(k : Int)] else waitTo p k := by
  unfold waitTo
  rw [List.range_succ, List.filter_append]
  by_cases h : p k <;> simp [h]
theorem waitTo_len (p : Nat → Bool) (k : Nat) : (waitTo p k).length ≤ k := by
  unfold waitTo
  rw [List.length_map]
  exact Nat.le_trans (List.length_filter_le _ _) (by simp)
theorem waitTo_mem (p : Nat → Bool) (k : Nat) (x : Int) (h : x ∈ waitTo p k) : 0 ≤ x ∧ x < k ∧ p x.toNat = true := by
  unfold waitTo at h
  obtain ⟨v, hv, rfl⟩ := List.mem_map.1 h
  obtain ⟨h1, h2⟩ := List.mem_filter.1 hv
  have := List.mem_range.1 h1
  exact ⟨by omega, by omega, by simpa using h2⟩
theorem waitTo_congr (p q : Nat → Bool) (k : Nat) (h : ∀ v, v < k → p v = q v) : waitTo p k = waitTo q k := by
  unfold waitTo
  rw [show (List.range k).filter p = (List.range k).filter q from List.filter_congr fun v hv => h v (List.mem_range.1 hv)]

/-- Is v unstable? -/
def unst (q : Int) (val : Nat → Int) (ds : List Int) (v : Nat) : Bool := decide ((v : Int) ≠ q) && decide (val v ≤ ds[v]?.getD 0)

/-- One more integer to an owned row. -/
theorem wpList_app1 {P : Program} (wr : World) {ops : Array Oper} {rest : List Oper} {o : Oper} {a : Act} {Q : Exit → Act → World → Prop}
    (hgd : o.guard = none) (s xop : Operand) (t : TypeId) (ho : o.op = .call { callee := .builtin .append, args := #[s, xop], argTypes := #[t, t] })
    (e : TypeId) (ht : P.underlying t = some (.slice e)) (hinfo : (P.info? e).map (fun i => (i.zero, i.size, i.bytes)) = some (some (.int .i64 0), 1, 8))
    (base : Nat) (v : Value) (xs : List Int) (hown : wr.ownsRow base e 1 v xs.length (xs.map (Value.int .i64))) (x : Int) (B : Nat) (hBs : B = wr.heap.size)
    (hs : a.eval s = v) (hx : a.eval xop = .slice (some ⟨B, 0, none⟩) 1 1) (hlen : xs.length ≤ 1000000000000) (hbase : base ≤ wr.heap.size)
    (h : ∀ v' w', w'.ownsRow base e 1 v' (xs ++ [x]).length ((xs ++ [x]).map (Value.int .i64)) → wr.grownBy w' v.ownBlock → (∀ k, v.ownBlock = some k → base ≤ k) → wpList P ops Q rest (a.put o.dst v') w') :
    wpList P ops Q (o :: rest) a (wr.alloc (.cells #[.int .i64 x] e)) := by
  obtain ⟨i, hi, hz, hsz, hby⟩ := info_parts hinfo
  subst hBs
  refine wpList_append_own _ hgd s xop t ho base e i (.int .i64 0) 1 8 ht hi hz hsz hby rfl (by decide) v xs.length _ hs (hown.alloc _) ⟨wr.heap.size, 0, none⟩ 1 1 [.int .i64 x] hx rfl (cell_one_new _ _ _) (by simp [Value.oneCell']) (by unfold maxLen; omega) (by omega) (by simp; omega) ?_
  intro v' w' hown' hgr _
  refine h v' w' ?_ ?_ (fun k hk => (hown.lt k hk).1)
  · simpa using hown'
  · refine ⟨hgr.os, hgr.tape, hgr.output, by have := hgr.size; simp at this; omega, fun k hk hne => ?_⟩
    rw [hgr.block k (by simp; omega) hne]
    exact Below.heap_alloc _ _ _ hk

theorem below_grown {B base : Nat} {W w w' : World} {v : Value} (hB : Below B W w) (hs : B ≤ w.heap.size) (hg : w.grownBy w' v.ownBlock) (hb : ∀ k, v.ownBlock = some k → base ≤ k) (hbb : B ≤ base) : Below B W w' :=
  hB.grown hg hs fun k hk => Nat.le_trans hbb (hb k hk)

theorem below_dN {B : Nat} {W w : World} (h : Below B W w) (n : Nat) : Below B W (w.drewN n) := h.trans ⟨rfl, rfl, rfl, Nat.le_refl _, fun _ _ => rfl⟩
theorem owns_dN {w : World} {base : Nat} {e : TypeId} {size : Nat} {v : Value} {m : Nat} {xs : List Value} (h : w.ownsRow base e size v m xs) (n : Nat) : (w.drewN n).ownsRow base e size v m xs := h
theorem cell_dN (w : World) (n : Nat) (a : Addr) : (w.drewN n).cell? a = w.cell? a := rfl

end Go.Proofs.YtbjoblkigbphhaaGreat

namespace Go.Proofs.YtbjoblkigbphhaaGreat
open Go.RowKit

theorem CellsAt.news {w : World} {b off : Nat} {cs : List Value} (h : CellsAt w (some ⟨b, off, none⟩) cs) (j : Nat) (u : Value) (hj : cs[j]? = some u) : w.cell? ((⟨b, off, none⟩ : Addr).add j) = some u := by
  rcases h with h | ⟨b', off', e, hl, hc⟩
  · subst h; simp at hj
  · simp only [Option.some.injEq, Addr.mk.injEq, and_true] at e
    obtain ⟨rfl, rfl⟩ := e
    have hlt : j < cs.length := (List.getElem?_eq_some_iff.1 hj).1
    have e2 : (⟨b, off, none⟩ : Addr).add j = ⟨b, off + j, none⟩ := by unfold Addr.add; split <;> simp_all
    rw [e2, hc j hlt]; exact hj

/-- append([]T{}, xs...): a new row with the same elements. -/
theorem wpList_clone {P : Program} (wr : World) {ops : Array Oper} {rest : List Oper} {o : Oper} {a : Act} {Q : Exit → Act → World → Prop}
    (hgd : o.guard = none) (s xop : Operand) (t : TypeId) (ho : o.op = .call { callee := .builtin .append, args := #[s, xop], argTypes := #[t, t] })
    (e : TypeId) (ht : P.underlying t = some (.slice e)) (hinfo : (P.info? e).map (fun i => (i.zero, i.size, i.bytes)) = some (some (.int .i64 0), 1, 8))
    (B : Nat) (hBs : B = wr.heap.size) (b off cap : Nat) (xs : List Int) (hxs : CellsAt wr (some ⟨b, off, none⟩) (xs.map (Value.int .i64))) (hlen : xs.length * 8 ≤ 140737488355328)
    (hs : a.eval s = .slice (some ⟨B, 0, none⟩) 0 0) (hx : a.eval xop = .slice (some ⟨b, off, none⟩) xs.length cap)
    (h : ∀ v' w', w'.ownsRow B e 1 v' xs.length (xs.map (Value.int .i64)) → Below wr.heap.size wr w' → (v' = .slice none 0 0 ↔ False) → wpList P ops Q rest (a.put o.dst v') w') :
    wpList P ops Q (o :: rest) a (wr.alloc (.cells #[] e)) := by
  obtain ⟨i, hi, hz, hsz, hby⟩ := info_parts hinfo
  subst hBs
  have hown := World.ownsRow_made (base := wr.heap.size) (e := e) (size := 1) wr #[] 0 (Nat.le_refl _) (Nat.zero_le _) rfl
  have hB : Below wr.heap.size wr (wr.alloc (.cells #[] e)) := (Below.refl _ _).alloc (Nat.le_refl _) _
  refine wpList_append_own _ hgd s xop t ho wr.heap.size e i (.int .i64 0) 1 8 ht hi hz hsz hby rfl (by decide) _ 0 [] hs hown ⟨b, off, none⟩ xs.length cap (xs.map (Value.int .i64)) hx (by simp)
    (fun j u hj => (hxs.below hB).news j u hj) (ints_oneCell' xs) (by unfold maxLen; omega) (by omega) (by simp) ?_
  intro v' w' hown' hgr hnil
  refine h v' w' (by simpa using hown') ?_ (by simpa using hnil)
  exact hB.grown hgr (by simp) (fun k hk => by simp [Value.ownBlock] at hk; omega)

theorem owns_some {w : World} {base : Nat} {e : TypeId} {size : Nat} {v : Value} {n : Nat} {xs : List Value} (h : w.ownsRow base e size v n xs) (hn : 0 < n) : ∃ g cap, v = .slice (some ⟨g, 0, none⟩) n cap ∧ base ≤ g ∧ g < w.heap.size := by
  rcases h.2 with ⟨rfl, rfl⟩ | ⟨g, cap, cur, rfl, hb, _⟩
  · omega
  · exact ⟨g, cap, rfl, hb, (owns_lt h).2⟩
theorem vecOf_zero (n : Nat) : List.replicate n (0 : Int) = vecOf n (fun _ => 0) := by apply List.ext_getElem <;> simp [vecOf]

/-- The script that fires v k times. -/
def oneAt (v k : Int) (u : Nat) : Int := if (u : Int) = v then k else 0
/-- What w gives v, or v gives w. -/
def mv (g : G) (s : Nat → Int) (v w : Nat) : Int := if v ≠ w then btw g v w * (s w - s v) else 0
def movedV (g : G) (d s : Nat → Int) (v : Nat) : Int := d v + sumTo (mv g s v) g.n.toNat
/-- The row when the vertices below v, and at v those below w, are done. -/
def mvSt (g : G) (d s : Nat → Int) (v w u : Nat) : Int := if u < v then movedV g d s u else if u = v then d u + sumTo (mv g s u) w else d u

theorem mvSt_start (g : G) (d s : Nat → Int) (n : Nat) : vecOf n (mvSt g d s 0 0) = vecOf n d :=
  vecOf_congr _ _ _ fun k _ => by unfold mvSt; simp [sumTo]
theorem mvSt_next (g : G) (d s : Nat → Int) (n v : Nat) : vecOf n (mvSt g d s v g.n.toNat) = vecOf n (mvSt g d s (v + 1) 0) :=
  vecOf_congr _ _ _ fun k _ => by
    unfold mvSt movedV
    by_cases h1 : k < v
    · rw [if_pos h1, if_pos (by omega)]
    · rw [if_neg h1]
      by_cases h2 : k = v
      · subst h2; rw [if_pos rfl, if_pos (by omega)]
      · rw [if_neg h2, if_neg (by omega)]
        by_cases h3 : k = v + 1
        · subst h3; simp [sumTo]
        · rw [if_neg h3]
theorem mvSt_end (g : G) (d s : Nat → Int) (n v : Nat) (h : n ≤ v) : vecOf n (mvSt g d s v 0) = vecOf n (movedV g d s) :=
  vecOf_congr _ _ _ fun k hk => by unfold mvSt; rw [if_pos (by omega)]
theorem mvSt_step (g : G) (d s : Nat → Int) (n v w : Nat) : vecOf n (mvSt g d s v (w + 1)) = (vecOf n (mvSt g d s v w)).set v (mvSt g d s v w v + mv g s v w) := by
  rw [vecOf_set]
  refine vecOf_congr _ _ _ fun k hk => ?_
  unfold mvSt
  by_cases h1 : k < v
  · rw [if_pos h1, if_neg (by omega), if_pos h1]
  · rw [if_neg h1]
    by_cases h2 : k = v
    · subst h2; simp [sumTo]; omega
    · simp [h1, h2]
theorem mvSt_same (g : G) (d s : Nat → Int) (n v w : Nat) (h : v = w) : vecOf n (mvSt g d s v (w + 1)) = vecOf n (mvSt g d s v w) := by
  refine vecOf_congr _ _ _ fun k hk => ?_
  unfold mvSt
  by_cases h1 : k < v
  · rw [if_pos h1, if_pos h1]
  · rw [if_neg h1, if_neg h1]
    by_cases h2 : k = v
    · subst h2; subst h; simp [sumTo, mv]
    · simp [h2]

theorem mul_bd (x y c : Int) (hx0 : 0 ≤ x) (hx : x ≤ 50) (hy0 : -c ≤ y) (hy : y ≤ c) : -(50 * c) ≤ x * y ∧ x * y ≤ 50 * c := by
  have hc : 0 ≤ c := by omega
  constructor
  · have h1 : x * -c ≤ x * y := Int.mul_le_mul_of_nonneg_left hy0 hx0
    have h2 : x * c ≤ 50 * c := Int.mul_le_mul_of_nonneg_right hx hc
    rw [Int.mul_neg] at h1; omega
  · have h1 : x * y ≤ x * c := Int.mul_le_mul_of_nonneg_left hy hx0
    have h2 : x * c ≤ 50 * c := Int.mul_le_mul_of_nonneg_right hx hc
    omega

theorem sumTo_bd2 (f : Nat → Int) (c : Int) (h : ∀ k, -c ≤ f k ∧ f k ≤ c) : ∀ n : Nat, -(n * c) ≤ sumTo f n ∧ sumTo f n ≤ n * c
  | 0 => by simp [sumTo]
  | n + 1 => by
    have h1 := sumTo_bd2 f c h n
    have h2 := h n
    unfold sumTo
    have : ((n + 1 : Nat) : Int) * c = n * c + c := by rw [Int.natCast_succ, Int.add_mul]; simp
    omega

/-- All values lie between -c and c. -/
def bdd (f : Nat → Int) (c : Int) : Prop := ∀ k, -c ≤ f k ∧ f k ≤ c

theorem mv_bd {g : G} (hg : Gok g) {s : Nat → Int} (hs : bdd s 1048576) (v w : Nat) : -104857600 ≤ mv g s v w ∧ mv g s v w ≤ 104857600 := by
  have h1 := hg.btw_bd v w
  have h2 := hs w
  have h3 := hs v
  have := mul_bd (btw g v w) (s w - s v) 2097152 h1.1 h1.2 (by omega) (by omega)
  unfold mv
  split <;> omega
theorem mvSum_bd {g : G} (hg : Gok g) {s : Nat → Int} (hs : bdd s 1048576) (v k : Nat) (hk : k ≤ 12) : -1258291200 ≤ sumTo (mv g s v) k ∧ sumTo (mv g s v) k ≤ 1258291200 := by
  have h := sumTo_bd2 (mv g s v) 104857600 (fun w => mv_bd hg hs v w) k
  omega

end Go.Proofs.YtbjoblkigbphhaaGreat

namespace Go.Proofs.YtbjoblkigbphhaaGreat
open Go.RowKit

theorem owns_elem {w : World} {base : Nat} {e : TypeId} {size g n cap : Nat} {xs : List Value} (h : w.ownsRow base e size (.slice (some ⟨g, 0, none⟩) n cap) n xs) : ∃ cur, w.heap[g]? = some (.cells cur e (0, 0)) := by
  rcases h.2 with ⟨h', _⟩ | ⟨g', cap', cur, h', _, hg, _⟩
  · simp at h'
  · simp only [Value.slice.injEq, Option.some.injEq, Addr.mk.injEq, and_true, true_and] at h'
    obtain ⟨rfl, _⟩ := h'
    exact ⟨cur, hg⟩
theorem owns_differ {w : World} {base base' : Nat} {e e' : TypeId} {size size' g g' n cap n' cap' : Nat} {xs xs' : List Value} (h : w.ownsRow base e size (.slice (some ⟨g, 0, none⟩) n cap) n xs)
    (h' : w.ownsRow base' e' size' (.slice (some ⟨g', 0, none⟩) n' cap') n' xs') (hne : e ≠ e') : g ≠ g' := by
  rintro rfl
  obtain ⟨c, hc⟩ := owns_elem h
  obtain ⟨c', hc'⟩ := owns_elem h'
  rw [hc] at hc'
  simp at hc'
  exact hne hc'.2

/-- v owns k rows of N integers each; row i lies in block bs i and holds f i. -/
structure OwnM (T1 T0 : TypeId) (w : World) (base : Nat) (v : Value) (N k : Nat) (bs : Nat → Nat) (f : Nat → Nat → Int) : Prop where
  outer : w.ownsRow base T1 1 v k ((List.range k).map fun i => Value.slice (some ⟨bs i, 0, none⟩) N N)
  inj : ∀ i j, i < k → j < k → bs i = bs j → i = j
  row : ∀ i, i < k → w.ownsRow base T0 1 (.slice (some ⟨bs i, 0, none⟩) N N) N ((vecOf N (f i)).map (Value.int .i64))

section
variable {T1 T0 : TypeId} {w w' : World} {base : Nat} {v : Value} {g cap N k : Nat} {bs : Nat → Nat} {f : Nat → Nat → Int}

theorem OwnM.kept (h : OwnM T1 T0 w base v N k bs f) {r : Option Nat} (hg : w.grownBy w' r) (ho : v.ownBlock = none ∨ v.ownBlock ≠ r) (hr : ∀ i, i < k → r ≠ some (bs i)) : OwnM T1 T0 w' base v N k bs f :=
  ⟨h.outer.kept hg ho, h.inj, fun i hi => (h.row i hi).kept hg (.inr (by simpa [Value.ownBlock] using fun e => hr i hi e.symm))⟩
theorem OwnM.below (h : OwnM T1 T0 w base v N k bs f) (hB : Below w.heap.size w w') : OwnM T1 T0 w' base v N k bs f :=
  ⟨owns_below h.outer hB, h.inj, fun i hi => owns_below (h.row i hi) hB⟩
theorem OwnM.rebase (h : OwnM T1 T0 w base v N k bs f) {base' : Nat} (hb : base' ≤ base) : OwnM T1 T0 w base' v N k bs f :=
  ⟨owns_base h.outer hb, h.inj, fun i hi => owns_base (h.row i hi) hb⟩
theorem OwnM.zero (T1 T0 : TypeId) (w : World) (base N : Nat) (bs : Nat → Nat) (f : Nat → Nat → Int) : OwnM T1 T0 w base (.slice none 0 0) N 0 bs f :=
  ⟨World.ownsRow_nil _ _ _ _, fun i j hi => by omega, fun i hi => by omega⟩
theorem OwnM.lt (h : OwnM T1 T0 w base v N k bs f) (i : Nat) (hi : i < k) : base ≤ bs i ∧ bs i < w.heap.size := owns_lt (h.row i hi)
/-- The cell of the outer row. -/
theorem OwnM.at (h : OwnM T1 T0 w base (.slice (some ⟨g, 0, none⟩) k cap) N k bs f) (i : Nat) (hi : i < k) : w.cell? ⟨g, i, none⟩ = some (.slice (some ⟨bs i, 0, none⟩) N N) := by
  rw [h.outer.cellAt i (by omega)]; simp [hi]
theorem OwnM.cell (h : OwnM T1 T0 w base v N k bs f) (i j : Nat) (hi : i < k) (hj : j < N) : w.cell? ⟨bs i, j, none⟩ = some (.int .i64 (f i j)) := by
  rw [owns_int (h.row i hi) j hj, vecOf_get _ _ _ hj]
theorem OwnM.frozen (h : OwnM T1 T0 w base v N k bs f) (i j : Nat) (hi : i < k) : w.frozen? ⟨bs i, j, none⟩ = false := (h.row i hi).frozenAt j
theorem OwnM.apart (h : OwnM T1 T0 w base (.slice (some ⟨g, 0, none⟩) k cap) N k bs f) (hT : T1 ≠ T0) (i : Nat) (hi : i < k) : g ≠ bs i := owns_differ h.outer (h.row i hi) hT
theorem OwnM.blk (h : OwnM T1 T0 w base v N k bs f) (hT : T1 ≠ T0) (i : Nat) (hi : i < k) : v.ownBlock ≠ some (bs i) := by
  intro e
  obtain ⟨g, cap, rfl, _⟩ := owns_some h.outer (by omega)
  simp only [Value.ownBlock, Option.some.injEq] at e
  exact h.apart hT i hi e
/-- A store into row i. -/
theorem OwnM.set (h : OwnM T1 T0 w base (.slice (some ⟨g, 0, none⟩) k cap) N k bs f) (hT : T1 ≠ T0) (i j : Nat) (hi : i < k) (x : Int) :
    OwnM T1 T0 (w.setCell ⟨bs i, j, none⟩ (.int .i64 x)) base (.slice (some ⟨g, 0, none⟩) k cap) N k bs (fun i' j' => if i' = i ∧ j' = j then x else f i' j') := by
  refine ⟨owns_other h.outer (h.apart hT i hi) _ _, h.inj, fun i' hi' => ?_⟩
  by_cases e : i' = i
  · subst e
    have h1 := owns_set (f := Value.int .i64) (h.row i' hi) j x
    rw [vecOf_set] at h1
    have h2 : vecOf N (fun q => if q = j then x else f i' q) = vecOf N (fun j' => if i' = i' ∧ j' = j then x else f i' j') := vecOf_congr _ _ _ fun q _ => by simp
    rw [h2] at h1
    exact h1
  · have h1 := owns_other (h.row i' hi') (fun e2 => e (h.inj i' i hi' hi e2)) j (.int .i64 x)
    have h2 : vecOf N (f i') = vecOf N (fun j' => if i' = i ∧ j' = j then x else f i' j') := vecOf_congr _ _ _ fun q _ => by simp [e]
    rw [h2] at h1
    exact h1
theorem OwnM.congr (h : OwnM T1 T0 w base v N k bs f) (f' : Nat → Nat → Int) (he : ∀ i j, i < k → j < N → f i j = f' i j) : OwnM T1 T0 w base v N k bs f' :=
  ⟨h.outer, h.inj, fun i hi => by rw [← vecOf_congr N (f i) (f' i) (fun j hj => he i j hi hj)]; exact h.row i hi⟩
/-- One more row, behind the append. -/
theorem OwnM.snoc {v' : Value} {b : Nat} (h : OwnM T1 T0 w base v N k bs f)
    (hnew : w'.ownsRow base T0 1 (.slice (some ⟨b, 0, none⟩) N N) N ((vecOf N (f k)).map (Value.int .i64))) (hb : ∀ i, i < k → bs i ≠ b)
    (hout : w'.ownsRow base T1 1 v' (k + 1) (((List.range k).map fun i => Value.slice (some ⟨bs i, 0, none⟩) N N) ++ [.slice (some ⟨b, 0, none⟩) N N]))
    (hrow : ∀ i, i < k → w'.ownsRow base T0 1 (.slice (some ⟨bs i, 0, none⟩) N N) N ((vecOf N (f i)).map (Value.int .i64))) :
    OwnM T1 T0 w' base v' N (k + 1) (fun i => if i < k then bs i else b) f := by
  refine ⟨?_, fun i j hi hj e => ?_, fun i hi => ?_⟩
  · have e : ((List.range (k + 1)).map fun i => Value.slice (some ⟨if i < k then bs i else b, 0, none⟩) N N) = ((List.range k).map fun i => Value.slice (some ⟨bs i, 0, none⟩) N N) ++ [.slice (some ⟨b, 0, none⟩) N N] := by
      rw [List.range_succ, List.map_append]
      congr 1
      · exact List.map_congr_left fun i hi => by rw [if_pos (List.mem_range.1 hi)]
      · simp
    rw [e]; exact hout
  · by_cases h1 : i < k
    · by_cases h2 : j < k
      · rw [if_pos h1, if_pos h2] at e; exact h.inj i j h1 h2 e
      · rw [if_pos h1, if_neg h2] at e; exact absurd e (hb i h1)
    · by_cases h2 : j < k
      · rw [if_neg h1, if_pos h2] at e; exact absurd e.symm (hb j h2)
      · omega
  · by_cases h1 : i < k
    · rw [if_pos h1]; exact hrow i h1
    · rw [if_neg h1]
      obtain rfl : i = k := by omega
      exact hnew
end

end Go.Proofs.YtbjoblkigbphhaaGreat

namespace Go.Proofs.YtbjoblkigbphhaaGreat
open Go.RowKit

theorem bext {s : Nat} {W0 W W' : World} (h : Below s W0 W) (hs : s ≤ W0.heap.size) (h1 : Below W.heap.size W W') : Below s W0 W' := h.trans (h1.mono (Nat.le_trans hs h.size))
def pickAt (picks : List Int) (i : Nat) : Int := picks[i % picks.length]?.getD 0
/-- A row of zeros, as a block. -/
def zer (N : Nat) : Array Value := (List.replicate N (Value.int .i64 0)).toArray
theorem owns_zer {w : World} {B N : Nat} {e : TypeId} (base : Nat) (h : w.heap[B]? = some (.cells (zer N) e (0, 0))) (hb : base ≤ B) (hN : N ≤ 1000) : w.ownsRow base e 1 (.slice (some ⟨B, 0, none⟩) N N) N ((vecOf N fun _ => 0).map (Value.int .i64)) := by
  refine ⟨by simp [vecOf], .inr ⟨B, N, zer N, rfl, hb, h, Nat.le_refl _, by unfold maxLen; omega, by simp [zer], ?_⟩⟩
  rw [← vecOf_zero]; simp [zer, List.take_of_length_le]
theorem owns_empty {w : World} {B : Nat} {e : TypeId} (base : Nat) (h : w.heap[B]? = some (.cells #[] e (0, 0))) (hb : base ≤ B) : w.ownsRow base e 1 (.slice (some ⟨B, 0, none⟩) 0 0) 0 [] :=
  ⟨rfl, .inr ⟨B, 0, #[], rfl, hb, h, Nat.le_refl _, Nat.zero_le _, rfl, rfl⟩⟩
theorem run_zer {P : Program} (t e : TypeId) (ht : P.underlying t = some (.slice e)) (hinfo : (P.info? e).map (fun i => (i.zero, i.size, i.bytes)) = some (some (.int .i64 0), 1, 8))
    (n : Int) (N : Nat) (h1 : (N : Int) ≤ n) (h2 : n ≤ (N : Int)) (h3 : N ≤ 1000) (w : World) :
    (Instr.makeSlice t (.int .i64 n) (.int .i64 n)).run P w = .ok (.slice (some ⟨w.heap.size, 0, none⟩) N N) (w.alloc (.cells (zer N) e)) := by
  obtain ⟨i, hi, hz, hs, hby⟩ := info_parts hinfo
  obtain rfl : n = (N : Int) := by omega
  have h := run_make (P := P) w t e i (.int .i64 0) ht hi hz .i64 .i64 N N (by omega) (Int.le_refl _) (by rw [hby]; omega) (by omega)
  rw [hs] at h
  simp only [Int.toNat_natCast, Nat.mul_one] at h
  have e1 : madeCells (Value.int .i64 0).cells N = zer N := by
    apply Array.toList_inj.1
    rw [show (Value.int .i64 0).cells = #[Value.int .i64 0] from rfl, toList_madeCells_one]; simp [zer]
  rw [e1] at h
  exact h
theorem heap_new (w : World) (o : Obj) : (w.alloc o).heap[w.heap.size]? = some o := by show (w.heap.push o)[w.heap.size]? = _; simp
theorem heap_new' (w : World) (o : Obj) (k : Nat) (h : k = w.heap.size) : (w.alloc o).heap[k]? = some o := by subst h; exact heap_new w o
theorem heap_drew (w : World) (k : Nat) : w.drew.heap[k]? = w.heap[k]? := rfl
theorem heap_old (w : World) (o : Obj) (k : Nat) (h : k < w.heap.size) : (w.alloc o).heap[k]? = w.heap[k]? := Below.heap_alloc w o k h

theorem owns_intsN {w : World} {base : Nat} {e : TypeId} {a : Option Addr} {N cap : Nat} {xs : List Int} (h : w.ownsRow base e 1 (.slice a N cap) N (xs.map (Value.int .i64))) (hl : xs.length = N) (hb : N ≤ 1000000) : IntsR w (.slice a N cap) xs := by
  subst hl; exact owns_ints h (by omega)
theorem pickAt_nn (picks : List Int) (h : ∀ k ∈ picks, 0 ≤ k) (i : Nat) : 0 ≤ pickAt picks i := by
  unfold pickAt
  cases hp : picks[i % picks.length]? with
  | none => simp
  | some x => simp; exact h x (List.mem_of_getElem? hp)

/-- A graph that was boxed: its cells, wherever nothing old has turned. -/
theorem boxed {w : World} (n ev : Value) (t : TypeId) {W : World} (h : Below (w.heap.size + 1) (w.alloc (.cells #[n, ev] t)) W) :
    W.cell? ⟨w.heap.size, 0, none⟩ = some n ∧ W.cell? ⟨w.heap.size, 1, none⟩ = some ev := by
  constructor
  · rw [h.cell (p := ⟨w.heap.size, 0, none⟩) (Nat.lt_succ_self _)]; simp
  · rw [h.cell (p := ⟨w.heap.size, 1, none⟩) (Nat.lt_succ_self _)]; simp

/-- The rows of the matrix of edges. -/
def rowsF (g : G) (v w : Nat) : Int := if v ≠ w then btw g v w else 0
/-- What is there, and how often each vertex has fired. -/
structure St where
  L : Nat → Int
  T : Nat → Int
/-- The chips behind the firing of v. -/
def fireL (g : G) (v : Nat) (L : Nat → Int) (u : Nat) : Int := (if u = v then L u - valence g v else L u) + rowsF g v u
def isUnst (g : G) (q : Int) (L : Nat → Int) (v : Nat) : Bool := decide ((v : Int) ≠ q) && decide (valence g v ≤ L v)
/-- The unstable vertices. -/
def waitN (g : G) (q : Int) (N : Nat) (L : Nat → Int) : List Int := waitTo (isUnst g q L) N
/-- The chosen one of l. -/
def chosen (l : List Int) (p : Int) : Int := l[(p % l.length).toNat]?.getD 0
def fireS (g : G) (v : Nat) (s : St) : St := { L := fireL g v s.L, T := fun u => if u = v then s.T u + 1 else s.T u }
def stp (g : G) (q : Int) (N : Nat) (picks : List Int) (i : Nat) (s : St) : St := fireS g (chosen (waitN g q N s.L) (pickAt picks i)).toNat s
/-- Settling with so many firings left, from the i-th on. -/
def sGo (g : G) (q : Int) (N : Nat) (picks : List Int) : Nat → Nat → St → Option St
  | 0, _, s => if waitN g q N s.L = [] then some s else none
  | f + 1, i, s => if waitN g q N s.L = [] then some s else sGo g q N picks f (i + 1) (stp g q N picks i s)
def maxF : Nat := 1048576
theorem maxF_eq : (maxF : Int) = 1048576 := rfl

theorem sGo_done (g : G) (q : Int) (N : Nat) (picks : List Int) (f i : Nat) (s : St) (h : waitN g q N s.L = []) : sGo g q N picks f i s = some s := by
  cases f <;> simp [sGo, h]
theorem sGo_over (g : G) (q : Int) (N : Nat) (picks : List Int) (i : Nat) (s : St) (h : waitN g q N s.L ≠ []) : sGo g q N picks 0 i s = none := by simp [sGo, h]
theorem sGo_step (g : G) (q : Int) (N : Nat) (picks : List Int) (i : Nat) (s : St) (h : waitN g q N s.L ≠ []) (hi : i < maxF) :
    sGo g q N picks (maxF - i) i s = sGo g q N picks (maxF - (i + 1)) (i + 1) (stp g q N picks i s) := by
  obtain ⟨f, hf⟩ : ∃ f, maxF - i = f + 1 := ⟨maxF - i - 1, by omega⟩
  rw [hf, show maxF - (i + 1) = f by omega]
  simp [sGo, h]

theorem waitN_eq (g : G) (q : Int) (N : Nat) (vs : List Int) (L : Nat → Int) (hv : ∀ v, v < N → vs[v]?.getD 0 = valence g v) :
    waitTo (unst q (fun u => vs[u]?.getD 0) (vecOf N L)) N = waitN g q N L :=
  waitTo_congr _ _ _ fun v h => by unfold unst isUnst; rw [vecOf_get _ _ _ h]; simp only [hv v h]
theorem waitN_len (g : G) (q : Int) (N : Nat) (L : Nat → Int) : (waitN g q N L).length ≤ N := waitTo_len _ _
theorem chosen_bd (g : G) (q : Int) (N : Nat) (L : Nat → Int) (p : Int) (_hp : 0 ≤ p) (h : waitN g q N L ≠ []) :
    0 ≤ chosen (waitN g q N L) p ∧ chosen (waitN g q N L) p < N ∧ chosen (waitN g q N L) p ≠ q ∧ valence g (chosen (waitN g q N L) p).toNat ≤ L (chosen (waitN g q N L) p).toNat := by
  have hl : 0 < (waitN g q N L).length := List.length_pos_iff.2 h
  have hm : (p % (waitN g q N L).length).toNat < (waitN g q N L).length := by
    have h1 := Int.emod_lt_of_pos p (show (0 : Int) < ((waitN g q N L).length : Int) by omega)
    have h2 := Int.emod_nonneg p (show ((waitN g q N L).length : Int) ≠ 0 by omega)
    omega
  have hmem : chosen (waitN g q N L) p ∈ waitN g q N L := by
    unfold chosen
    rw [List.getElem?_eq_getElem hm]
    exact List.getElem_mem hm
  have h3 := waitTo_mem _ _ _ hmem
  refine ⟨h3.1, h3.2.1, ?_, ?_⟩
  · have := h3.2.2; unfold isUnst at this; simp at this; omega
  · have := h3.2.2; unfold isUnst at this; rw [Bool.and_eq_true] at this; exact of_decide_eq_true this.2

/-- All is within bounds after i firings. -/
def okS (N : Nat) (c : Int) (i : Nat) (s : St) : Prop := (∀ u, u < N → -(c + 700 * i) ≤ s.L u ∧ s.L u ≤ c + 700 * i) ∧ ∀ u, u < N → 0 ≤ s.T u ∧ s.T u ≤ i
theorem rowsF_bd {g : G} (hg : Gok g) (v u : Nat) : 0 ≤ rowsF g v u ∧ rowsF g v u ≤ 50 := by
  have := hg.btw_bd v u
  unfold rowsF; split <;> omega
theorem val_bd {g : G} (hg : Gok g) (v : Int) : 0 ≤ valence g v ∧ valence g v ≤ 600 := hg.valence_bd v _ (Nat.le_refl _)
theorem okS_fire {g : G} (hg : Gok g) {N : Nat} {c : Int} {i : Nat} {s : St} (h : okS N c i s) (v : Nat) : okS N c (i + 1) (fireS g v s) := by
  refine ⟨fun u hu => ?_, fun u hu => ?_⟩
  · have h1 := h.1 u hu
    have h2 := rowsF_bd hg v u
    have h3 := val_bd hg v
    show _ ≤ fireL g v s.L u ∧ fireL g v s.L u ≤ _
    unfold fireL
    split <;> omega
  · have h1 := h.2 u hu
    show _ ≤ (if u = v then s.T u + 1 else s.T u) ∧ (if u = v then s.T u + 1 else s.T u) ≤ _
    split <;> omega

/-- The row while v fires: what v loses is gone, the neighbours below u have theirs. -/
def fireSt (g : G) (v u : Nat) (L : Nat → Int) (k : Nat) : Int := (if k = v then L k - valence g v else L k) + if k < u then rowsF g v k else 0
theorem fireSt_start (g : G) (N v : Nat) (L : Nat → Int) : (vecOf N L).set v (L v - valence g v) = vecOf N (fireSt g v 0 L) := by
  rw [vecOf_set]
  refine vecOf_congr _ _ _ fun k _ => ?_
  unfold fireSt
  by_cases h : k = v
  · subst h; simp
  · simp [h]
theorem fireSt_step (g : G) (N v u : Nat) (L : Nat → Int) : vecOf N (fireSt g v (u + 1) L) = (vecOf N (fireSt g v u L)).set u (fireSt g v u L u + rowsF g v u) := by
  rw [vecOf_set]
  refine vecOf_congr _ _ _ fun k _ => ?_
  unfold fireSt
  by_cases h : k = u
  · subst h; simp
  · rw [if_neg h]
    congr 1
    by_cases h2 : k < u
    · rw [if_pos h2, if_pos (by omega)]
    · rw [if_neg h2, if_neg (by omega)]
theorem fireSt_at {g : G} (hg : Gok g) {N : Nat} {c : Int} {i : Nat} {s : St} (h : okS N c i s) (v u : Nat) (hu : u < N) :
    -(c + 700 * i) - 600 ≤ fireSt g v u s.L u ∧ fireSt g v u s.L u ≤ c + 700 * i := by
  have h1 := h.1 u hu
  have h3 := val_bd hg v
  unfold fireSt
  rw [if_neg (show ¬ u < u by omega)]
  split <;> omega
theorem fireSt_end (g : G) (N v : Nat) (L : Nat → Int) : vecOf N (fireSt g v N L) = vecOf N (fireL g v L) :=
  vecOf_congr _ _ _ fun k hk => by unfold fireSt fireL; rw [if_pos hk]

/-- Settling: the number of the error, or the end. -/
def settleR (g : G) (q : Int) (ds : List Int) (picks : List Int) : Int ⊕ St :=
  if givErr g q ds picks ≠ 0 then .inl (givErr g q ds picks)
  else match sGo g q g.n.toNat picks maxF 0 ⟨fun u => ds[u]?.getD 0, fun _ => 0⟩ with
    | none => .inl 12
    | some s => if inB (s.L q.toNat) then .inr s else .inl 11

/-- A divisor and a script are handed back, or nothing and the number of an error. -/
def RetTri (T0 : TypeId) (w : World) (N : Nat) (r : Int ⊕ St) (e : Ending) (w' : World) : Prop :=
  Below w.heap.size w w' ∧ match r with
  | .inl k => e = .returned (.tuple #[.slice none 0 0, .slice none 0 0, .int .i64 k])
  | .inr s => ∃ b1 c1 b2 c2, e = .returned (.tuple #[.slice (some ⟨b1, 0, none⟩) N c1, .slice (some ⟨b2, 0, none⟩) N c2, .int .i64 0]) ∧
      w'.ownsRow w.heap.size T0 1 (.slice (some ⟨b1, 0, none⟩) N c1) N ((vecOf N s.L).map (Value.int .i64)) ∧
      w'.ownsRow w.heap.size T0 1 (.slice (some ⟨b2, 0, none⟩) N c2) N ((vecOf N s.T).map (Value.int .i64))

theorem giv_ok {g : G} {q : Int} {ds picks : List Int} (h : givErr g q ds picks = 0) : cfgErr g q ds = 0 ∧ pkErr picks = 0 := by
  unfold givErr at h
  by_cases h1 : cfgErr g q ds = 0
  · rw [if_neg (by simpa using h1)] at h; exact ⟨h1, h⟩
  · rw [if_pos h1] at h; exact absurd h h1
theorem cfg_ok {g : G} {q : Int} {ds : List Int} (h : cfgErr g q ds = 0) : Gok g ∧ 0 ≤ q ∧ q < g.n ∧ (ds.length : Int) = g.n ∧ (∀ k ∈ ds, -1048576 ≤ k ∧ k ≤ 1048576) ∧ ∀ v : Nat, v < ds.length → (v : Int) ≠ q → 0 ≤ ds[v]?.getD 0 := by
  unfold cfgErr at h
  by_cases h1 : rootedErr g q = 0
  · rw [if_neg (by simpa using h1)] at h
    by_cases h2 : dErr ds g.n = 0
    · rw [if_neg (by simpa using h2)] at h
      obtain ⟨hg, hq0, hqn⟩ := rooted_ok h1
      obtain ⟨_, _, hl, hb⟩ := dErr_ok h2
      refine ⟨hg, hq0, hqn, hl, hb, fun v hv hne => ?_⟩
      by_cases h3 : anyFrom (debtAt q ds) 0 g.n.toNat = true
      · rw [if_pos h3] at h; omega
      · have := mt (anyFrom_iff (debtAt q ds) g.n.toNat 0).2 h3
        apply Int.not_lt.1
        intro hlt
        exact this ⟨v, Nat.zero_le _, by omega, by unfold debtAt; simp [hne, hlt]⟩
    · rw [if_pos h2] at h; exact absurd h h2
  · rw [if_pos h1] at h; exact absurd h h1
theorem pk_ok {l : List Int} (h : pkErr l = 0) : 0 < l.length ∧ l.length ≤ 4096 ∧ ∀ k ∈ l, 0 ≤ k := by
  unfold pkErr at h
  by_cases h1 : 4096 < l.length
  · rw [if_pos h1] at h; omega
  · rw [if_neg h1] at h
    by_cases h2 : l.length = 0
    · rw [if_pos h2] at h; omega
    · rw [if_neg h2] at h
      by_cases h3 : l.all (fun k => decide (0 ≤ k)) = true
      · exact ⟨by omega, by omega, fun k hk => by simpa using List.all_eq_true.1 h3 k hk⟩
      · rw [if_neg h3] at h; omega

end Go.Proofs.YtbjoblkigbphhaaGreat

namespace Go.Proofs.YtbjoblkigbphhaaGreat
open Go.RowKit

/-- Block b of w holds the cells cs, of type t. -/
def Blk (w : World) (b : Nat) (cs : Array Value) (t : TypeId) : Prop := w.heap[b]? = some (.cells cs t (0, 0))
section
variable {w w' : World} {b : Nat} {cs : Array Value} {t : TypeId}
theorem Blk.cell (h : Blk w b cs t) (k : Nat) : w.cell? ⟨b, k, none⟩ = cs[k]? := by
  unfold Blk at h; simp [World.cell?, h]
theorem Blk.frozen (h : Blk w b cs t) (k : Nat) : w.frozen? ⟨b, k, none⟩ = false := by
  unfold Blk at h; simp [World.frozen?, h]
theorem Blk.lt (h : Blk w b cs t) : b < w.heap.size := (Array.getElem?_eq_some_iff.1 h).1
theorem Blk.set (h : Blk w b cs t) (k : Nat) (v : Value) : Blk (w.setCell ⟨b, k, none⟩ v) b (cs.setIfInBounds k v) t := by
  unfold Blk at *
  simp [World.setCell, Array.getElem?_modify, h]
theorem Blk.other (h : Blk w b cs t) {g : Nat} (hne : b ≠ g) (k : Nat) (v : Value) : Blk (w.setCell ⟨g, k, none⟩ v) b cs t := by
  unfold Blk at *
  rw [Below.heap_setCell _ _ _ _ hne]; exact h
theorem Blk.below (h : Blk w b cs t) (hB : Below w.heap.size w w') : Blk w' b cs t := by
  have := hB.block b h.lt
  unfold Blk at *
  rw [this]; exact h
theorem Blk.grown (h : Blk w b cs t) {row : Option Nat} (hg : w.grownBy w' row) (hne : row ≠ some b) : Blk w' b cs t := by
  have := hg.block b h.lt (fun e => hne e.symm)
  unfold Blk at *
  rw [this]; exact h
theorem Blk.alloc (h : Blk w b cs t) (o : Obj) : Blk (w.alloc o) b cs t := by
  have := heap_old w o b h.lt
  unfold Blk at *
  rw [this]; exact h
theorem Blk.new (w : World) (cs : Array Value) (t : TypeId) : Blk (w.alloc (.cells cs t)) w.heap.size cs t := heap_new w _
theorem Blk.drew (h : Blk w b cs t) : Blk w.drew b cs t := h
/-- What is owned elsewhere stays while a cell of the block is written. -/
theorem Blk.owns (_h : Blk w b cs t) {base : Nat} {e : TypeId} {size : Nat} {v : Value} {n : Nat} {xs : List Value} (ho : w.ownsRow base e size v n xs) (hne : v.ownBlock ≠ some b) (k : Nat) (u : Value) :
    (w.setCell ⟨b, k, none⟩ u).ownsRow base e size v n xs := ho.kept (grown_set w b k u) (.inr hne)
end

theorem gcell {w w' : World} {v : Value} {B : Nat} (hg : w.grownBy w' v.ownBlock) (hv : v.ownBlock = some B) : (∀ b o, b < w.heap.size → b ≠ B → w'.cell? ⟨b, o, none⟩ = w.cell? ⟨b, o, none⟩) ∧ (∀ b o, b < w.heap.size → b ≠ B → w'.frozen? ⟨b, o, none⟩ = w.frozen? ⟨b, o, none⟩) := by
  rw [hv] at hg
  exact ⟨fun b o h hne => World.cell?_of_block (hg.block b h (by simpa using hne)), fun b o h hne => World.frozen?_of_block (hg.block b h (by simpa using hne))⟩

/-- One event: what is there behind it, and who fires. -/
def evStp (g : G) (q : Int) (N : Nat) (x : Int × Int) (s : St) : St × Int :=
  if x.1 = 1 then ({ L := fun u => if u = x.2.toNat then s.L u + 1 else s.L u, T := s.T }, -1)
  else if waitN g q N s.L = [] then (s, -1)
  else (fireS g (chosen (waitN g q N s.L) x.2).toNat s, chosen (waitN g q N s.L) x.2)
/-- What is there behind the first k events, and the trace. -/
def evTo (g : G) (q : Int) (N : Nat) (l : List (Int × Int)) (s0 : St) : Nat → St × List Int
  | 0 => (s0, [])
  | k + 1 => ((evStp g q N (l[k]?.getD (0, 0)) (evTo g q N l s0 k).1).1, (evTo g q N l s0 k).2 ++ [(evStp g q N (l[k]?.getD (0, 0)) (evTo g q N l s0 k).1).2])

theorem evTo_len (g : G) (q : Int) (N : Nat) (l : List (Int × Int)) (s0 : St) : ∀ k, (evTo g q N l s0 k).2.length = k
  | 0 => rfl
  | k + 1 => by simp [evTo, evTo_len g q N l s0 k]

theorem sumTo_congr (f h : Nat → Int) : ∀ n, (∀ k, k < n → f k = h k) → sumTo f n = sumTo h n
  | 0, _ => rfl
  | n + 1, e => by unfold sumTo; rw [sumTo_congr f h n (fun k hk => e k (by omega)), e n (by omega)]
theorem sumTo_one (x : Int) (v : Nat) : ∀ n, sumTo (fun w => if w = v then x else 0) n = if v < n then x else 0
  | 0 => by simp [sumTo]
  | n + 1 => by
    unfold sumTo
    rw [sumTo_one x v n]
    by_cases h1 : v < n
    · rw [if_pos h1, if_neg (by omega), if_pos (by omega)]; omega
    · rw [if_neg h1]
      by_cases h2 : n = v
      · rw [if_pos h2, if_pos (by omega)]; omega
      · rw [if_neg h2, if_neg (by omega)]; omega
theorem sumTo_neg (f : Nat → Int) : ∀ n, sumTo (fun k => -f k) n = -sumTo f n
  | 0 => rfl
  | n + 1 => by unfold sumTo; rw [sumTo_neg f n]; omega
theorem btw_comm (g : G) (u v : Int) : btw g u v = btw g v u := by unfold btw; rw [Int.min_comm, Int.max_comm]

/-- To fire v once is to move the chips by the script that fires v. -/
theorem moved_fire (g : G) (L : Nat → Int) (v u : Nat) (_hu : u < g.n.toNat) (hv : v < g.n.toNat) : movedV g L (oneAt v 1) u = fireL g v L u := by
  unfold movedV fireL
  by_cases h : u = v
  · subst h
    rw [if_pos rfl]
    have h1 : sumTo (mv g (oneAt u 1) u) g.n.toNat = sumTo (fun k => -valTerm g u k) g.n.toNat := sumTo_congr _ _ _ fun k _ => by
      unfold mv valTerm oneAt
      by_cases e : u = k
      · subst e; simp
      · have e1 : ¬ ((k : Int) = (u : Int)) := by omega
        rw [if_pos e, if_neg e1, if_pos rfl, if_pos e1, btw_comm]; omega
    rw [h1, sumTo_neg]
    have h2 : rowsF g u u = 0 := by unfold rowsF; simp
    rw [h2]
    unfold valence
    omega
  · rw [if_neg h]
    have h1 : sumTo (mv g (oneAt v 1) u) g.n.toNat = sumTo (fun w => if w = v then rowsF g v u else 0) g.n.toNat := sumTo_congr _ _ _ fun k _ => by
      unfold mv oneAt rowsF
      have e2 : ¬ ((u : Int) = (v : Int)) := by omega
      by_cases e : k = v
      · subst e
        rw [if_pos h, if_pos rfl, if_neg e2, if_pos rfl, if_pos (fun e => h e.symm), btw_comm]; omega
      · have e1 : ¬ ((k : Int) = (v : Int)) := by omega
        rw [if_neg e1, if_neg e2, if_neg e]
        split <;> simp
    rw [h1, sumTo_one, if_pos hv]

theorem evTo_ok {g : G} (hg : Gok g) (q : Int) (N : Nat) (l : List (Int × Int)) (s0 : St) (c : Int) (h0 : okS N c 0 s0) : ∀ k, okS N c k (evTo g q N l s0 k).1
  | 0 => h0
  | k + 1 => by
    have ih := evTo_ok hg q N l s0 c h0 k
    have mono : okS N c (k + 1) (evTo g q N l s0 k).1 := ⟨fun u hu => by have := ih.1 u hu; omega, fun u hu => by have := ih.2 u hu; omega⟩
    show okS N c (k + 1) (evStp g q N (l[k]?.getD (0, 0)) (evTo g q N l s0 k).1).1
    unfold evStp
    split
    · refine ⟨fun u hu => ?_, mono.2⟩
      have := ih.1 u hu
      dsimp only
      split <;> omega
    · split
      · exact mono
      · exact okS_fire hg ih _

/-- Is a divisor in its bounds? -/
def bddB (N : Nat) (L : Nat → Int) : Bool := (vecOf N L).all inB
/-- A run: the number of the error, or the end. -/
def runErr (g : G) (q : Int) (ds : List Int) (l : List (Int × Int)) : Int := if cfgErr g q ds ≠ 0 then cfgErr g q ds else evsErr g l
def dOf (ds : List Int) : Nat → Int := fun u => ds[u]?.getD 0
def s0Of (ds : List Int) : St := ⟨dOf ds, fun _ => 0⟩
def runR (g : G) (q : Int) (ds : List Int) (l : List (Int × Int)) : Int ⊕ St :=
  if runErr g q ds l ≠ 0 then .inl (runErr g q ds l)
  else if bddB g.n.toNat (evTo g q g.n.toNat l (s0Of ds) l.length).1.L then .inr (evTo g q g.n.toNat l (s0Of ds) l.length).1 else .inl 11
def traceR (g : G) (q : Int) (ds : List Int) (l : List (Int × Int)) : Int ⊕ List Int :=
  if runErr g q ds l ≠ 0 then .inl (runErr g q ds l) else .inr (evTo g q g.n.toNat l (s0Of ds) l.length).2

end Go.Proofs.YtbjoblkigbphhaaGreat

namespace Go.Proofs.YtbjoblkigbphhaaGreat
set_option linter.unusedVariables false
open Go.RowKit

/-- The vertex that stands for the part of v, in n steps. -/
def rt (F : Nat → Nat) : Nat → Nat → Nat
  | 0, v => v
  | n + 1, v => if F v = v then v else rt F n (F v)
/-- The vertex that stands for the part of v. -/
def root (F : Nat → Nat) (v : Nat) : Nat := rt F v v

theorem rt_fuel (F : Nat → Nat) (hF : ∀ v, F v ≤ v) : ∀ m x, x ≤ m → rt F m x = rt F x x := by
  intro m
  induction m using Nat.strongRecOn with
  | ind m ih =>
    intro x hx
    cases x with
    | zero =>
      cases m with
      | zero => rfl
      | succ m => unfold rt; rw [if_pos (by have := hF 0; omega)]
    | succ x =>
      cases m with
      | zero => omega
      | succ m =>
        unfold rt
        by_cases h : F (x + 1) = x + 1
        · rw [if_pos h, if_pos h]
        · rw [if_neg h, if_neg h]
          have h2 := hF (x + 1)
          rw [ih m (by omega) _ (by omega), ih x (by omega) _ (by omega)]

theorem root_fix {F : Nat → Nat} {v : Nat} (h : F v = v) : root F v = v := by
  unfold root
  cases v with
  | zero => rfl
  | succ v => unfold rt; rw [if_pos h]
theorem root_step {F : Nat → Nat} (hF : ∀ v, F v ≤ v) (v : Nat) : root F v = root F (F v) := by
  by_cases h : F v = v
  · rw [h]
  · have h2 := hF v
    unfold root
    cases v with
    | zero => omega
    | succ v =>
      rw [rt, if_neg h, rt_fuel F hF v _ (by omega)]
theorem root_le {F : Nat → Nat} (hF : ∀ v, F v ≤ v) (v : Nat) : root F v ≤ v := by
  induction v using Nat.strongRecOn with
  | ind v ih =>
    by_cases h : F v = v
    · rw [root_fix h]; exact Nat.le_refl _
    · have h2 := hF v
      rw [root_step hF]
      have := ih (F v) (by omega)
      omega
theorem root_root {F : Nat → Nat} (hF : ∀ v, F v ≤ v) (v : Nat) : F (root F v) = root F v := by
  induction v using Nat.strongRecOn with
  | ind v ih =>
    by_cases h : F v = v
    · rw [root_fix h]; exact h
    · have h2 := hF v
      rw [root_step hF]
      exact ih (F v) (by omega)

/-- Two parts joined. -/
def joinF (F : Nat → Nat) (a b : Nat) : Nat → Nat := fun v => if v = max (root F a) (root F b) then min (root F a) (root F b) else F v
theorem joinF_le {F : Nat → Nat} (hF : ∀ v, F v ≤ v) (a b : Nat) : ∀ v, joinF F a b v ≤ v := by
  intro v
  unfold joinF
  split
  · omega
  · exact hF v
/-- The forest of the first k edges. -/
def forestTo (g : G) : Nat → Nat → Nat
  | 0 => fun v => v
  | k + 1 => joinF (forestTo g k) (g.es[k]?.getD default).a.toNat (g.es[k]?.getD default).b.toNat
theorem forestTo_le (g : G) : ∀ k v, forestTo g k v ≤ v
  | 0, v => Nat.le_refl _
  | k + 1, v => joinF_le (forestTo_le g k) _ _ v

/-- What stands in the block of a forest. -/
def fArr (F : Nat → Nat) : Array Value := #[.int .i64 (F 0), .int .i64 (F 1), .int .i64 (F 2), .int .i64 (F 3), .int .i64 (F 4), .int .i64 (F 5), .int .i64 (F 6), .int .i64 (F 7), .int .i64 (F 8), .int .i64 (F 9), .int .i64 (F 10), .int .i64 (F 11)]
theorem fArr_get (F : Nat → Nat) (i : Nat) (h : i < 12) : (fArr F)[i]? = some (.int .i64 (F i)) := by
  unfold fArr
  rcases i with _|_|_|_|_|_|_|_|_|_|_|_|i <;> first | rfl | omega
theorem fArr_set (F : Nat → Nat) (i x : Nat) (h : i < 12) : (fArr F).setIfInBounds i (.int .i64 (x : Int)) = fArr (fun v => if v = i then x else F v) := by
  unfold fArr
  rcases i with _|_|_|_|_|_|_|_|_|_|_|_|i <;> first | rfl | omega

theorem owns_blk {w : World} {b : Nat} {cs : Array Value} {T e : TypeId} {base size n : Nat} {v : Value} {xs : List Value} (h : Blk w b cs T) (ho : w.ownsRow base e size v n xs) (hT : T ≠ e) : ∀ k, v.ownBlock = some k → k ≠ b := by
  rintro k hk rfl
  rcases ho.2 with ⟨h0, _⟩ | ⟨g, cap, cur, h0, _, hh, _⟩
  · rw [h0] at hk; cases hk
  · rw [h0] at hk
    obtain rfl : g = k := Option.some.inj hk
    unfold Blk at h
    rw [h] at hh
    injection hh with hh
    injection hh with _ h2
    exact hT h2


end Go.Proofs.YtbjoblkigbphhaaGreat
