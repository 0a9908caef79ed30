/-
  Plain definitions and laws: what is reached from a vertex, and the number of parts, as the reference reckons them.
  Plain definitions and laws: events and picks of a schedule.
  Plain definitions and laws: vectors, the vertices that wait; one more element of an owned row.
  Plain definitions and laws: a divisor that a script has moved; the clone of a row.
  Owned matrices: a row of rows.
-/
import Derived.Test.YtbjoblkigbphhaaSpec
import Derived.Test.YtbjoblkigbphhaaLib
namespace Go.Proofs.Ytbjoblkigbphhaa
open Go.RowKit

def rStp (g : G) (a b : Nat) (l : List Bool) : List Bool := if (l[a]?.getD false) && decide (0 < btw g a b) then l.set b true else l
def rB (g : G) (a : Nat) : Nat → List Bool → List Bool
  | 0, l => l
  | k + 1, l => rStp g a k (rB g a k l)
def rA (g : G) : Nat → List Bool → List Bool
  | 0, l => l
  | k + 1, l => rB g k g.n.toNat (rA g k l)
def rR (g : G) : Nat → List Bool → List Bool
  | 0, l => l
  | k + 1, l => rA g g.n.toNat (rR g k l)
def reached (g : G) (v : Int) : List Bool := rR g g.n.toNat ((List.replicate g.n.toNat false).set v.toNat true)

theorem rStp_len (g : G) (a b : Nat) (l : List Bool) : (rStp g a b l).length = l.length := by unfold rStp; split <;> simp
theorem rB_len (g : G) (a : Nat) (l : List Bool) : ∀ k, (rB g a k l).length = l.length
  | 0 => rfl
  | k + 1 => by rw [rB, rStp_len, rB_len g a l k]
theorem rA_len (g : G) (l : List Bool) : ∀ k, (rA g k l).length = l.length
  | 0 => rfl
  | k + 1 => by rw [rA, rB_len, rA_len g l k]
theorem rR_len (g : G) (l : List Bool) : ∀ k, (rR g k l).length = l.length
  | 0 => rfl
  | k + 1 => by rw [rR, rA_len, rR_len g l k]
theorem reached_len (g : G) (v : Int) : (reached g v).length = g.n.toNat := by simp [reached, rR_len]

/-- seen[u] = seen[u] or r[u], for u < k. -/
def orTo (r : List Bool) : Nat → List Bool → List Bool
  | 0, s => s
  | k + 1, s => (orTo r k s).set k (((orTo r k s)[k]?.getD false) || (r[k]?.getD false))
theorem orTo_len (r s : List Bool) : ∀ k, (orTo r k s).length = s.length
  | 0 => rfl
  | k + 1 => by simp [orTo, orTo_len r s k]
def partsTo (g : G) : Nat → Int × List Bool
  | 0 => (0, List.replicate g.n.toNat false)
  | k + 1 => if (partsTo g k).2[k]?.getD false then partsTo g k else ((partsTo g k).1 + 1, orTo (reached g k) g.n.toNat (partsTo g k).2)
def parts (g : G) : Int := (partsTo g g.n.toNat).1
theorem partsTo_len (g : G) : ∀ k, (partsTo g k).2.length = g.n.toNat
  | 0 => by simp [partsTo]
  | k + 1 => by unfold partsTo; split <;> simp [orTo_len, partsTo_len g k]
theorem partsTo_bd (g : G) : ∀ k : Nat, 0 ≤ (partsTo g k).1 ∧ (partsTo g k).1 ≤ k
  | 0 => by simp [partsTo]
  | k + 1 => by have := partsTo_bd g k; unfold partsTo; split <;> first | omega | (simp only; omega)

/-- The error of a graph with a sink. -/
def rootedErr (g : G) (q : Int) : Int := if checkErr g ≠ 0 then checkErr g else if parts g ≠ 1 then 13 else if vtx g.n q then 0 else 2

def inB (k : Int) : Bool := decide (-1048576 ≤ k) && decide (k ≤ 1048576)
/-- The error of a divisor on n vertices. -/
def dErr (ds : List Int) (n : Int) : Int := if n < 1 ∨ 12 < n then 2 else if (ds.length : Int) ≠ n then 8 else if ds.all inB then 0 else 2

/-- Does one of f i, f (i + 1), .., n of them, hold? -/
def anyFrom (f : Nat → Bool) : Nat → Nat → Bool
  | _, 0 => false
  | i, n + 1 => if f i then true else anyFrom f (i + 1) n
theorem anyFrom_step (f : Nat → Bool) (i n : Nat) (h : i < n) : anyFrom f i (n - i) = if f i then true else anyFrom f (i + 1) (n - (i + 1)) := by
  obtain ⟨k, rfl⟩ : ∃ k, n = i + k + 1 := ⟨n - i - 1, by omega⟩
  rw [show i + k + 1 - i = k + 1 by omega, show i + k + 1 - (i + 1) = k by omega]; rfl
theorem anyFrom_end (f : Nat → Bool) (i n : Nat) (h : n ≤ i) : anyFrom f i (n - i) = false := by
  rw [Nat.sub_eq_zero_of_le h]; rfl
theorem anyFrom_iff (f : Nat → Bool) : ∀ n i, anyFrom f i n = true ↔ ∃ k, i ≤ k ∧ k < i + n ∧ f k = true
  | 0, i => by simp [anyFrom]; intro k h1 h2; omega
  | n + 1, i => by
    unfold anyFrom
    split
    · rename_i h; simp only [true_iff]; exact ⟨i, Nat.le_refl _, by omega, h⟩
    · rename_i h
      rw [anyFrom_iff f n (i + 1)]
      constructor
      · rintro ⟨k, h1, h2, h3⟩; exact ⟨k, by omega, by omega, h3⟩
      · rintro ⟨k, h1, h2, h3⟩
        refine ⟨k, ?_, by omega, h3⟩
        rcases Nat.eq_or_lt_of_le h1 with e | e
        · subst e; exact absurd h3 h
        · exact e

/-- Is there a debt at v, which is not the sink? -/
def debtAt (q : Int) (ds : List Int) (v : Nat) : Bool := decide ((v : Int) ≠ q) && decide (ds[v]?.getD 0 < 0)
/-- The error of a configuration. -/
def cfgErr (g : G) (q : Int) (ds : List Int) : Int :=
  if rootedErr g q ≠ 0 then rootedErr g q else if dErr ds g.n ≠ 0 then dErr ds g.n else if anyFrom (debtAt q ds) 0 g.n.toNat then 2 else 0

theorem rooted_ok {g : G} {q : Int} (h : rootedErr g q = 0) : Gok g ∧ 0 ≤ q ∧ q < g.n := by
  unfold rootedErr at h
  unfold Gok
  by_cases hc : checkErr g = 0
  · refine ⟨hc, ?_⟩
    simp only [hc] at h
    by_cases hp : parts g = 1
    · simp [hp] at h
      unfold vtx at h
      simpa using h
    · simp [hp] at h
  · simp [hc] at h

theorem dErr_ok {ds : List Int} {n : Int} (h : dErr ds n = 0) : 1 ≤ n ∧ n ≤ 12 ∧ (ds.length : Int) = n ∧ ∀ k ∈ ds, -1048576 ≤ k ∧ k ≤ 1048576 := by
  unfold dErr at h
  by_cases h1 : n < 1 ∨ 12 < n
  · simp [h1] at h
  by_cases h2 : (ds.length : Int) = n
  · rw [if_neg h1, if_neg (by simpa using h2)] at h
    by_cases h3 : ds.all inB = true
    · refine ⟨by omega, by omega, h2, fun k hk => ?_⟩
      have := List.all_eq_true.1 h3 k hk
      simpa [inB] using this
    · simp [h3] at h
  · rw [if_neg h1, if_pos h2] at h; omega

end Go.Proofs.Ytbjoblkigbphhaa

namespace Go.Proofs.Ytbjoblkigbphhaa
open Go.RowKit

/-- v is a slice of pairs that holds ps in w. -/
def PairsR (w : World) (v : Value) (ps : List (Int × Int)) : Prop :=
  ∃ a cap, v = .slice a ps.length cap ∧ ps.length ≤ cap ∧ cap ≤ 9223372036854775807 ∧ ps.length * 16 ≤ 140737488355328 ∧ CellsAt w a (pairCells ps)

theorem PairsR.below {w w' : World} {v : Value} {ps : List (Int × Int)} (h : PairsR w v ps) (hb : Below w.heap.size w w') : PairsR w' v ps := by
  obtain ⟨a, cap, h1, h2, h3, h4, h5⟩ := h
  exact ⟨a, cap, h1, h2, h3, h4, h5.below hb⟩

theorem pairCells_length (ps : List (Int × Int)) : (pairCells ps).length = ps.length * 2 := by
  induction ps with
  | nil => rfl
  | cons x ps ih => simp only [pairCells, List.flatMap_cons, List.length_append, List.length_cons, List.length_nil] at *; omega

theorem pairCells_get (ps : List (Int × Int)) : ∀ k, k < ps.length → (pairCells ps)[k * 2]? = some (.int .i64 (ps[k]?.getD (0, 0)).1) ∧ (pairCells ps)[k * 2 + 1]? = some (.int .i64 (ps[k]?.getD (0, 0)).2) := by
  induction ps with
  | nil => intro k hk; simp at hk
  | cons x ps ih =>
    intro k hk
    cases k with
    | zero => simp [pairCells]
    | succ k =>
      have h := ih k (by simpa using hk)
      have e : pairCells (x :: ps) = [.int .i64 x.1, .int .i64 x.2] ++ pairCells ps := rfl
      rw [e, List.getElem?_append_right (by simp; omega), List.getElem?_append_right (by simp; omega)]
      simp only [List.length_cons, List.length_nil, List.getElem?_cons_succ]
      rw [show (k + 1) * 2 - (0 + 1 + 1) = k * 2 by omega, show (k + 1) * 2 + 1 - (0 + 1 + 1) = k * 2 + 1 by omega]
      exact h

theorem CellsAt.pair {w : World} {a : Option Addr} {ps : List (Int × Int)} (h : CellsAt w a (pairCells ps)) (hk : 0 < ps.length) :
    ∃ b off, a = some ⟨b, off, none⟩ ∧ b < w.heap.size ∧ ∀ k, k < ps.length → w.cell? ⟨b, off + k * 2, none⟩ = some (.int .i64 (ps[k]?.getD (0, 0)).1) ∧
      w.cell? ⟨b, off + k * 2 + 1, none⟩ = some (.int .i64 (ps[k]?.getD (0, 0)).2) := by
  rcases h with h | ⟨b, off, rfl, hl, hc⟩
  · have := pairCells_length ps; rw [h] at this; simp at this; omega
  · refine ⟨b, off, rfl, hl, fun k hk => ?_⟩
    have hl2 := pairCells_length ps
    have := pairCells_get ps k hk
    exact ⟨by rw [hc (k * 2) (by omega)]; exact this.1, by rw [Nat.add_assoc, hc (k * 2 + 1) (by omega)]; exact this.2⟩

/-- An owned row reads as its cells. -/
theorem owns_at {w : World} {base : Nat} {e : TypeId} {size : Nat} {v : Value} {n : Nat} {xs : List Value} (h : w.ownsRow base e size v n xs) :
    ∃ a cap, v = .slice a n cap ∧ n ≤ cap ∧ cap ≤ 9223372036854775807 ∧ CellsAt w a xs := by
  have hx := h.1
  rcases h.2 with ⟨rfl, rfl⟩ | ⟨g, cap, cur, rfl, hb, hg, hn, hm, hs, ht⟩
  · exact ⟨none, 0, rfl, Nat.le_refl _, by omega, .inl (List.eq_nil_of_length_eq_zero (by simpa using hx))⟩
  · refine ⟨some ⟨g, 0, none⟩, cap, rfl, hn, by unfold maxLen at hm; omega, .inr ⟨g, 0, rfl, (owns_lt h).2, fun i hi => ?_⟩⟩
    have := h.cellAt i (by rw [← hx]; exact hi)
    rwa [Nat.zero_add]

theorem owns_pairs {w : World} {base : Nat} {e : TypeId} {v : Value} {ps : List (Int × Int)} (h : w.ownsRow base e 2 v ps.length (pairCells ps)) (hb : ps.length * 16 ≤ 140737488355328) : PairsR w v ps := by
  obtain ⟨a, cap, h1, h2, h3, h4⟩ := owns_at h
  exact ⟨a, cap, h1, h2, h3, hb, h4⟩

theorem owns_ints {w : World} {base : Nat} {e : TypeId} {v : Value} {xs : List Int} (h : w.ownsRow base e 1 v xs.length (xs.map (Value.int .i64))) (hb : xs.length * 8 ≤ 140737488355328) : IntsR w v xs := by
  obtain ⟨a, cap, h1, h2, h3, h4⟩ := owns_at h
  exact ⟨a, cap, h1, h2, h3, hb, h4⟩

/-- The error of an event: (kind, value). -/
def evErr (g : G) (x : Int × Int) : Int := if x.1 ≠ 0 ∧ x.1 ≠ 1 then 1 else if x.2 < 0 ∨ x.1 = 1 ∧ ¬ vtx g.n x.2 = true then 2 else 0
def evAt (g : G) (l : List (Int × Int)) (i : Nat) : Int := evErr g (l[i]?.getD (0, 0))
def evsErr (g : G) (l : List (Int × Int)) : Int := if 4096 < l.length then 5 else firstNZ (evAt g l) 0 l.length
/-- The error of picks. -/
def pkErr (l : List Int) : Int := if 4096 < l.length then 5 else if l.length = 0 then 14 else if l.all (fun k => decide (0 ≤ k)) then 0 else 2
/-- Are there few of them, or too many? -/
def fewB (n : Nat) : Bool := decide (n ≤ 60) || (decide (4096 < n) && decide (n ≤ 8192))
def schErr (g : G) (l : List (Int × Int)) : Int := if checkErr g ≠ 0 then checkErr g else evsErr g l
/-- The error of a configuration and picks. -/
def givErr (g : G) (q : Int) (ds : List Int) (l : List Int) : Int := if cfgErr g q ds ≠ 0 then cfgErr g q ds else pkErr l

end Go.Proofs.Ytbjoblkigbphhaa

namespace Go.Proofs.Ytbjoblkigbphhaa
open Go.RowKit

/-- f 0, .., f (n - 1). -/
def vecOf (n : Nat) (f : Nat → Int) : List Int := (List.range n).map f
theorem vecOf_len (n : Nat) (f : Nat → Int) : (vecOf n f).length = n := by simp [vecOf]
theorem vecOf_get (n : Nat) (f : Nat → Int) (k : Nat) (hk : k < n) : (vecOf n f)[k]?.getD 0 = f k := by simp [vecOf, hk]
theorem vecOf_set (n : Nat) (f : Nat → Int) (k : Nat) (x : Int) : (vecOf n f).set k x = vecOf n (fun i => if i = k then x else f i) := by
  apply List.ext_getElem?
  intro i
  rw [List.getElem?_set]
  unfold vecOf
  by_cases hi : i < n
  · by_cases e : k = i
    · subst e; simp [hi]
    · have e' : ¬ i = k := fun h => e h.symm
      simp [e, e', hi]
  · by_cases e : k = i
    · subst e; simp [hi]
    · simp [e, hi]
theorem vecOf_congr (n : Nat) (f g : Nat → Int) (h : ∀ k, k < n → f k = g k) : vecOf n f = vecOf n g := by
  unfold vecOf
  exact List.map_congr_left fun k hk => h k (List.mem_range.1 hk)
theorem vecOf_self (ds : List Int) : vecOf ds.length (fun i => ds[i]?.getD 0) = ds := by
  apply List.ext_getElem?
  intro i
  unfold vecOf
  by_cases hi : i < ds.length <;> simp [hi]

/-- The numbers below k with p, as integers. -/
def waitTo (p : Nat → Bool) (k : Nat) : List Int := ((List.range k).filter p).map fun v : Nat => (v : Int)
theorem waitTo_succ (p : Nat → Bool) (k : Nat) : waitTo p (k + 1) = if p k then waitTo p k ++ [(k : Int)] else waitTo p k := by
  unfold waitTo
  rw [List.range_succ, List.filter_append]
  by_cases h : p k <;> simp [h]
theorem waitTo_len (p : Nat → Bool) (k : Nat) : (waitTo p k).length ≤ k := by
  unfold waitTo
  rw [List.length_map]
  exact Nat.le_trans (List.length_filter_le _ _) (by simp)
theorem waitTo_mem (p : Nat → Bool) (k : Nat) (x : Int) (h : x ∈ waitTo p k) : 0 ≤ x ∧ x < k ∧ p x.toNat = true := by
  unfold waitTo at h
  obtain ⟨v, hv, rfl⟩ := List.mem_map.1 h
  obtain ⟨h1, h2⟩ := List.mem_filter.1 hv
  have := List.mem_range.1 h1
  exact ⟨by omega, by omega, by simpa using h2⟩
theorem waitTo_congr (p q : Nat → Bool) (k : Nat) (h : ∀ v, v < k → p v = q v) : waitTo p k = waitTo q k := by
  unfold waitTo
  rw [show (List.range k).filter p = (List.range k).filter q from List.filter_congr fun v hv => h v (List.mem_range.1 hv)]

/-- Is v unstable? -/
def unst (q : Int) (val : Nat → Int) (ds : List Int) (v : Nat) : Bool := decide ((v : Int) ≠ q) && decide (val v ≤ ds[v]?.getD 0)

/-- One more integer to an owned row. -/
theorem wpList_app1 {P : Program} (wr : World) {ops : Array Oper} {rest : List Oper} {o : Oper} {a : Act} {Q : Exit → Act → World → Prop}
    (hgd : o.guard = none) (s xop : Operand) (t : TypeId) (ho : o.op = .call { callee := .builtin .append, args := #[s, xop], argTypes := #[t, t] })
    (e : TypeId) (ht : P.underlying t = some (.slice e)) (hinfo : (P.info? e).map (fun i => (i.zero, i.size, i.bytes)) = some (some (.int .i64 0), 1, 8))
    (base : Nat) (v : Value) (xs : List Int) (hown : wr.ownsRow base e 1 v xs.length (xs.map (Value.int .i64))) (x : Int) (B : Nat) (hBs : B = wr.heap.size)
    (hs : a.eval s = v) (hx : a.eval xop = .slice (some ⟨B, 0, none⟩) 1 1) (hlen : xs.length ≤ 1000000000000) (hbase : base ≤ wr.heap.size)
    (h : ∀ v' w', w'.ownsRow base e 1 v' (xs ++ [x]).length ((xs ++ [x]).map (Value.int .i64)) → wr.grownBy w' v.ownBlock → (∀ k, v.ownBlock = some k → base ≤ k) → wpList P ops Q rest (a.put o.dst v') w') :
    wpList P ops Q (o :: rest) a (wr.alloc (.cells #[.int .i64 x] e)) := by
  obtain ⟨i, hi, hz, hsz, hby⟩ := info_parts hinfo
  subst hBs
  refine wpList_append_own _ hgd s xop t ho base e i (.int .i64 0) 1 8 ht hi hz hsz hby rfl (by decide) v xs.length _ hs (hown.alloc _) ⟨wr.heap.size, 0, none⟩ 1 1 [.int .i64 x] hx rfl (cell_one_new _ _ _) (by simp [Value.oneCell']) (by unfold maxLen; omega) (by omega) (by simp; omega) ?_
  intro v' w' hown' hgr _
  refine h v' w' ?_ ?_ (fun k hk => (hown.lt k hk).1)
  · simpa using hown'
  · refine ⟨hgr.os, hgr.tape, hgr.output, by have := hgr.size; simp at this; omega, fun k hk hne => ?_⟩
    rw [hgr.block k (by simp; omega) hne]
    exact Below.heap_alloc _ _ _ hk

theorem below_grown {B base : Nat} {W w w' : World} {v : Value} (hB : Below B W w) (hs : B ≤ w.heap.size) (hg : w.grownBy w' v.ownBlock) (hb : ∀ k, v.ownBlock = some k → base ≤ k) (hbb : B ≤ base) : Below B W w' :=
  hB.grown hg hs fun k hk => Nat.le_trans hbb (hb k hk)

theorem below_dN {B : Nat} {W w : World} (h : Below B W w) (n : Nat) : Below B W (w.drewN n) := h.trans ⟨rfl, rfl, rfl, Nat.le_refl _, fun _ _ => rfl⟩
theorem owns_dN {w : World} {base : Nat} {e : TypeId} {size : Nat} {v : Value} {m : Nat} {xs : List Value} (h : w.ownsRow base e size v m xs) (n : Nat) : (w.drewN n).ownsRow base e size v m xs := h
theorem cell_dN (w : World) (n : Nat) (a : Addr) : (w.drewN n).cell? a = w.cell? a := rfl

end Go.Proofs.Ytbjoblkigbphhaa

namespace Go.Proofs.Ytbjoblkigbphhaa
open Go.RowKit

theorem CellsAt.news {w : World} {b off : Nat} {cs : List Value} (h : CellsAt w (some ⟨b, off, none⟩) cs) (j : Nat) (u : Value) (hj : cs[j]? = some u) : w.cell? ((⟨b, off, none⟩ : Addr).add j) = some u := by
  rcases h with h | ⟨b', off', e, hl, hc⟩
  · subst h; simp at hj
  · simp only [Option.some.injEq, Addr.mk.injEq, and_true] at e
    obtain ⟨rfl, rfl⟩ := e
    have hlt : j < cs.length := (List.getElem?_eq_some_iff.1 hj).1
    have e2 : (⟨b, off, none⟩ : Addr).add j = ⟨b, off + j, none⟩ := by unfold Addr.add; split <;> simp_all
    rw [e2, hc j hlt]; exact hj

/-- append([]T{}, xs...): a new row with the same elements. -/
theorem wpList_clone {P : Program} (wr : World) {ops : Array Oper} {rest : List Oper} {o : Oper} {a : Act} {Q : Exit → Act → World → Prop}
    (hgd : o.guard = none) (s xop : Operand) (t : TypeId) (ho : o.op = .call { callee := .builtin .append, args := #[s, xop], argTypes := #[t, t] })
    (e : TypeId) (ht : P.underlying t = some (.slice e)) (hinfo : (P.info? e).map (fun i => (i.zero, i.size, i.bytes)) = some (some (.int .i64 0), 1, 8))
    (B : Nat) (hBs : B = wr.heap.size) (b off cap : Nat) (xs : List Int) (hxs : CellsAt wr (some ⟨b, off, none⟩) (xs.map (Value.int .i64))) (hlen : xs.length * 8 ≤ 140737488355328)
    (hs : a.eval s = .slice (some ⟨B, 0, none⟩) 0 0) (hx : a.eval xop = .slice (some ⟨b, off, none⟩) xs.length cap)
    (h : ∀ v' w', w'.ownsRow B e 1 v' xs.length (xs.map (Value.int .i64)) → Below wr.heap.size wr w' → (v' = .slice none 0 0 ↔ False) → wpList P ops Q rest (a.put o.dst v') w') :
    wpList P ops Q (o :: rest) a (wr.alloc (.cells #[] e)) := by
  obtain ⟨i, hi, hz, hsz, hby⟩ := info_parts hinfo
  subst hBs
  have hown := World.ownsRow_made (base := wr.heap.size) (e := e) (size := 1) wr #[] 0 (Nat.le_refl _) (Nat.zero_le _) rfl
  have hB : Below wr.heap.size wr (wr.alloc (.cells #[] e)) := (Below.refl _ _).alloc (Nat.le_refl _) _
  refine wpList_append_own _ hgd s xop t ho wr.heap.size e i (.int .i64 0) 1 8 ht hi hz hsz hby rfl (by decide) _ 0 [] hs hown ⟨b, off, none⟩ xs.length cap (xs.map (Value.int .i64)) hx (by simp)
    (fun j u hj => (hxs.below hB).news j u hj) (ints_oneCell' xs) (by unfold maxLen; omega) (by omega) (by simp) ?_
  intro v' w' hown' hgr hnil
  refine h v' w' (by simpa using hown') ?_ (by simpa using hnil)
  exact hB.grown hgr (by simp) (fun k hk => by simp [Value.ownBlock] at hk; omega)

theorem owns_some {w : World} {base : Nat} {e : TypeId} {size : Nat} {v : Value} {n : Nat} {xs : List Value} (h : w.ownsRow base e size v n xs) (hn : 0 < n) : ∃ g cap, v = .slice (some ⟨g, 0, none⟩) n cap ∧ base ≤ g ∧ g < w.heap.size := by
  rcases h.2 with ⟨rfl, rfl⟩ | ⟨g, cap, cur, rfl, hb, _⟩
  · omega
  · exact ⟨g, cap, rfl, hb, (owns_lt h).2⟩
theorem vecOf_zero (n : Nat) : List.replicate n (0 : Int) = vecOf n (fun _ => 0) := by apply List.ext_getElem <;> simp [vecOf]

/-- The script that fires v k times. -/
def oneAt (v k : Int) (u : Nat) : Int := if (u : Int) = v then k else 0
/-- What w gives v, or v gives w. -/
def mv (g : G) (s : Nat → Int) (v w : Nat) : Int := if v ≠ w then btw g v w * (s w - s v) else 0
def movedV (g : G) (d s : Nat → Int) (v : Nat) : Int := d v + sumTo (mv g s v) g.n.toNat
/-- The row when the vertices below v, and at v those below w, are done. -/
def mvSt (g : G) (d s : Nat → Int) (v w u : Nat) : Int := if u < v then movedV g d s u else if u = v then d u + sumTo (mv g s u) w else d u

theorem mvSt_start (g : G) (d s : Nat → Int) (n : Nat) : vecOf n (mvSt g d s 0 0) = vecOf n d :=
  vecOf_congr _ _ _ fun k _ => by unfold mvSt; simp [sumTo]
theorem mvSt_next (g : G) (d s : Nat → Int) (n v : Nat) : vecOf n (mvSt g d s v g.n.toNat) = vecOf n (mvSt g d s (v + 1) 0) :=
  vecOf_congr _ _ _ fun k _ => by
    unfold mvSt movedV
    by_cases h1 : k < v
    · rw [if_pos h1, if_pos (by omega)]
    · rw [if_neg h1]
      by_cases h2 : k = v
      · subst h2; rw [if_pos rfl, if_pos (by omega)]
      · rw [if_neg h2, if_neg (by omega)]
        by_cases h3 : k = v + 1
        · subst h3; simp [sumTo]
        · rw [if_neg h3]
theorem mvSt_end (g : G) (d s : Nat → Int) (n v : Nat) (h : n ≤ v) : vecOf n (mvSt g d s v 0) = vecOf n (movedV g d s) :=
  vecOf_congr _ _ _ fun k hk => by unfold mvSt; rw [if_pos (by omega)]
theorem mvSt_step (g : G) (d s : Nat → Int) (n v w : Nat) : vecOf n (mvSt g d s v (w + 1)) = (vecOf n (mvSt g d s v w)).set v (mvSt g d s v w v + mv g s v w) := by
  rw [vecOf_set]
  refine vecOf_congr _ _ _ fun k hk => ?_
  unfold mvSt
  by_cases h1 : k < v
  · rw [if_pos h1, if_neg (by omega), if_pos h1]
  · rw [if_neg h1]
    by_cases h2 : k = v
    · subst h2; simp [sumTo]; omega
    · simp [h1, h2]
theorem mvSt_same (g : G) (d s : Nat → Int) (n v w : Nat) (h : v = w) : vecOf n (mvSt g d s v (w + 1)) = vecOf n (mvSt g d s v w) := by
  refine vecOf_congr _ _ _ fun k hk => ?_
  unfold mvSt
  by_cases h1 : k < v
  · rw [if_pos h1, if_pos h1]
  · rw [if_neg h1, if_neg h1]
    by_cases h2 : k = v
    · subst h2; subst h; simp [sumTo, mv]
    · simp [h2]

theorem mul_bd (x y c : Int) (hx0 : 0 ≤ x) (hx : x ≤ 50) (hy0 : -c ≤ y) (hy : y ≤ c) : -(50 * c) ≤ x * y ∧ x * y ≤ 50 * c := by
  have hc : 0 ≤ c := by omega
  constructor
  · have h1 : x * -c ≤ x * y := Int.mul_le_mul_of_nonneg_left hy0 hx0
    have h2 : x * c ≤ 50 * c := Int.mul_le_mul_of_nonneg_right hx hc
    rw [Int.mul_neg] at h1; omega
  · have h1 : x * y ≤ x * c := Int.mul_le_mul_of_nonneg_left hy hx0
    have h2 : x * c ≤ 50 * c := Int.mul_le_mul_of_nonneg_right hx hc
    omega

theorem sumTo_bd2 (f : Nat → Int) (c : Int) (h : ∀ k, -c ≤ f k ∧ f k ≤ c) : ∀ n : Nat, -(n * c) ≤ sumTo f n ∧ sumTo f n ≤ n * c
  | 0 => by simp [sumTo]
  | n + 1 => by
    have h1 := sumTo_bd2 f c h n
    have h2 := h n
    unfold sumTo
    have : ((n + 1 : Nat) : Int) * c = n * c + c := by rw [Int.natCast_succ, Int.add_mul]; simp
    omega

/-- All values lie between -c and c. -/
def bdd (f : Nat → Int) (c : Int) : Prop := ∀ k, -c ≤ f k ∧ f k ≤ c

theorem mv_bd {g : G} (hg : Gok g) {s : Nat → Int} (hs : bdd s 1048576) (v w : Nat) : -104857600 ≤ mv g s v w ∧ mv g s v w ≤ 104857600 := by
  have h1 := hg.btw_bd v w
  have h2 := hs w
  have h3 := hs v
  have := mul_bd (btw g v w) (s w - s v) 2097152 h1.1 h1.2 (by omega) (by omega)
  unfold mv
  split <;> omega
theorem mvSum_bd {g : G} (hg : Gok g) {s : Nat → Int} (hs : bdd s 1048576) (v k : Nat) (hk : k ≤ 12) : -1258291200 ≤ sumTo (mv g s v) k ∧ sumTo (mv g s v) k ≤ 1258291200 := by
  have h := sumTo_bd2 (mv g s v) 104857600 (fun w => mv_bd hg hs v w) k
  omega

end Go.Proofs.Ytbjoblkigbphhaa

namespace Go.Proofs.Ytbjoblkigbphhaa
open Go.RowKit

theorem owns_elem {w : World} {base : Nat} {e : TypeId} {size g n cap : Nat} {xs : List Value} (h : w.ownsRow base e size (.slice (some ⟨g, 0, none⟩) n cap) n xs) : ∃ cur, w.heap[g]? = some (.cells cur e (0, 0)) := by
  rcases h.2 with ⟨h', _⟩ | ⟨g', cap', cur, h', _, hg, _⟩
  · simp at h'
  · simp only [Value.slice.injEq, Option.some.injEq, Addr.mk.injEq, and_true, true_and] at h'
    obtain ⟨rfl, _⟩ := h'
    exact ⟨cur, hg⟩
theorem owns_differ {w : World} {base base' : Nat} {e e' : TypeId} {size size' g g' n cap n' cap' : Nat} {xs xs' : List Value} (h : w.ownsRow base e size (.slice (some ⟨g, 0, none⟩) n cap) n xs)
    (h' : w.ownsRow base' e' size' (.slice (some ⟨g', 0, none⟩) n' cap') n' xs') (hne : e ≠ e') : g ≠ g' := by
  rintro rfl
  obtain ⟨c, hc⟩ := owns_elem h
  obtain ⟨c', hc'⟩ := owns_elem h'
  rw [hc] at hc'
  simp at hc'
  exact hne hc'.2

/-- v owns k rows of N integers each; row i lies in block bs i and holds f i. -/
structure OwnM (T1 T0 : TypeId) (w : World) (base : Nat) (v : Value) (N k : Nat) (bs : Nat → Nat) (f : Nat → Nat → Int) : Prop where
  outer : w.ownsRow base T1 1 v k ((List.range k).map fun i => Value.slice (some ⟨bs i, 0, none⟩) N N)
  inj : ∀ i j, i < k → j < k → bs i = bs j → i = j
  row : ∀ i, i < k → w.ownsRow base T0 1 (.slice (some ⟨bs i, 0, none⟩) N N) N ((vecOf N (f i)).map (Value.int .i64))

section
variable {T1 T0 : TypeId} {w w' : World} {base : Nat} {v : Value} {g cap N k : Nat} {bs : Nat → Nat} {f : Nat → Nat → Int}

theorem OwnM.kept (h : OwnM T1 T0 w base v N k bs f) {r : Option Nat} (hg : w.grownBy w' r) (ho : v.ownBlock = none ∨ v.ownBlock ≠ r) (hr : ∀ i, i < k → r ≠ some (bs i)) : OwnM T1 T0 w' base v N k bs f :=
  ⟨h.outer.kept hg ho, h.inj, fun i hi => (h.row i hi).kept hg (.inr (by simpa [Value.ownBlock] using fun e => hr i hi e.symm))⟩
theorem OwnM.below (h : OwnM T1 T0 w base v N k bs f) (hB : Below w.heap.size w w') : OwnM T1 T0 w' base v N k bs f :=
  ⟨owns_below h.outer hB, h.inj, fun i hi => owns_below (h.row i hi) hB⟩
theorem OwnM.rebase (h : OwnM T1 T0 w base v N k bs f) {base' : Nat} (hb : base' ≤ base) : OwnM T1 T0 w base' v N k bs f :=
  ⟨owns_base h.outer hb, h.inj, fun i hi => owns_base (h.row i hi) hb⟩
theorem OwnM.zero (T1 T0 : TypeId) (w : World) (base N : Nat) (bs : Nat → Nat) (f : Nat → Nat → Int) : OwnM T1 T0 w base (.slice none 0 0) N 0 bs f :=
  ⟨World.ownsRow_nil _ _ _ _, fun i j hi => by omega, fun i hi => by omega⟩
theorem OwnM.lt (h : OwnM T1 T0 w base v N k bs f) (i : Nat) (hi : i < k) : base ≤ bs i ∧ bs i < w.heap.size := owns_lt (h.row i hi)
/-- The cell of the outer row. -/
theorem OwnM.at (h : OwnM T1 T0 w base (.slice (some ⟨g, 0, none⟩) k cap) N k bs f) (i : Nat) (hi : i < k) : w.cell? ⟨g, i, none⟩ = some (.slice (some ⟨bs i, 0, none⟩) N N) := by
  rw [h.outer.cellAt i (by omega)]; simp [hi]
theorem OwnM.cell (h : OwnM T1 T0 w base v N k bs f) (i j : Nat) (hi : i < k) (hj : j < N) : w.cell? ⟨bs i, j, none⟩ = some (.int .i64 (f i j)) := by
  rw [owns_int (h.row i hi) j hj, vecOf_get _ _ _ hj]
theorem OwnM.frozen (h : OwnM T1 T0 w base v N k bs f) (i j : Nat) (hi : i < k) : w.frozen? ⟨bs i, j, none⟩ = false := (h.row i hi).frozenAt j
theorem OwnM.apart (h : OwnM T1 T0 w base (.slice (some ⟨g, 0, none⟩) k cap) N k bs f) (hT : T1 ≠ T0) (i : Nat) (hi : i < k) : g ≠ bs i := owns_differ h.outer (h.row i hi) hT
theorem OwnM.blk (h : OwnM T1 T0 w base v N k bs f) (hT : T1 ≠ T0) (i : Nat) (hi : i < k) : v.ownBlock ≠ some (bs i) := by
  intro e
  obtain ⟨g, cap, rfl, _⟩ := owns_some h.outer (by omega)
  simp only [Value.ownBlock, Option.some.injEq] at e
  exact h.apart hT i hi e
/-- A store into row i. -/
theorem OwnM.set (h : OwnM T1 T0 w base (.slice (some ⟨g, 0, none⟩) k cap) N k bs f) (hT : T1 ≠ T0) (i j : Nat) (hi : i < k) (x : Int) :
    OwnM T1 T0 (w.setCell ⟨bs i, j, none⟩ (.int .i64 x)) base (.slice (some ⟨g, 0, none⟩) k cap) N k bs (fun i' j' => if i' = i ∧ j' = j then x else f i' j') := by
  refine ⟨owns_other h.outer (h.apart hT i hi) _ _, h.inj, fun i' hi' => ?_⟩
  by_cases e : i' = i
  · subst e
    have h1 := owns_set (f := Value.int .i64) (h.row i' hi) j x
    rw [vecOf_set] at h1
    have h2 : vecOf N (fun q => if q = j then x else f i' q) = vecOf N (fun j' => if i' = i' ∧ j' = j then x else f i' j') := vecOf_congr _ _ _ fun q _ => by simp
    rw [h2] at h1
    exact h1
  · have h1 := owns_other (h.row i' hi') (fun e2 => e (h.inj i' i hi' hi e2)) j (.int .i64 x)
    have h2 : vecOf N (f i') = vecOf N (fun j' => if i' = i ∧ j' = j then x else f i' j') := vecOf_congr _ _ _ fun q _ => by simp [e]
    rw [h2] at h1
    exact h1
theorem OwnM.congr (h : OwnM T1 T0 w base v N k bs f) (f' : Nat → Nat → Int) (he : ∀ i j, i < k → j < N → f i j = f' i j) : OwnM T1 T0 w base v N k bs f' :=
  ⟨h.outer, h.inj, fun i hi => by rw [← vecOf_congr N (f i) (f' i) (fun j hj => he i j hi hj)]; exact h.row i hi⟩
/-- One more row, behind the append. -/
theorem OwnM.snoc {v' : Value} {b : Nat} (h : OwnM T1 T0 w base v N k bs f)
    (hnew : w'.ownsRow base T0 1 (.slice (some ⟨b, 0, none⟩) N N) N ((vecOf N (f k)).map (Value.int .i64))) (hb : ∀ i, i < k → bs i ≠ b)
    (hout : w'.ownsRow base T1 1 v' (k + 1) (((List.range k).map fun i => Value.slice (some ⟨bs i, 0, none⟩) N N) ++ [.slice (some ⟨b, 0, none⟩) N N]))
    (hrow : ∀ i, i < k → w'.ownsRow base T0 1 (.slice (some ⟨bs i, 0, none⟩) N N) N ((vecOf N (f i)).map (Value.int .i64))) :
    OwnM T1 T0 w' base v' N (k + 1) (fun i => if i < k then bs i else b) f := by
  refine ⟨?_, fun i j hi hj e => ?_, fun i hi => ?_⟩
  · have e : ((List.range (k + 1)).map fun i => Value.slice (some ⟨if i < k then bs i else b, 0, none⟩) N N) = ((List.range k).map fun i => Value.slice (some ⟨bs i, 0, none⟩) N N) ++ [.slice (some ⟨b, 0, none⟩) N N] := by
      rw [List.range_succ, List.map_append]
      congr 1
      · exact List.map_congr_left fun i hi => by rw [if_pos (List.mem_range.1 hi)]
      · simp
    rw [e]; exact hout
  · by_cases h1 : i < k
    · by_cases h2 : j < k
      · rw [if_pos h1, if_pos h2] at e; exact h.inj i j h1 h2 e
      · rw [if_pos h1, if_neg h2] at e; exact absurd e (hb i h1)
    · by_cases h2 : j < k
      · rw [if_neg h1, if_pos h2] at e; exact absurd e.symm (hb j h2)
      · omega
  · by_cases h1 : i < k
    · rw [if_pos h1]; exact hrow i h1
    · rw [if_neg h1]
      obtain rfl : i = k := by omega
      exact hnew
end

end Go.Proofs.Ytbjoblkigbphhaa
