/-
  Plain definitions and laws: vectors, the vertices that wait; one more element of an owned row.
-/
import Derived.Test.YtlhbgainpeehoaaSpec3
namespace Go.Proofs.Ytlhbgainpeehoaa
open Go.RowKit

/-- f 0, .., f (n - 1). -/
def vecOf (n : Nat) (f : Nat → Int) : List Int := (List.range n).map f
theorem vecOf_len (n : Nat) (f : Nat → Int) : (vecOf n f).length = n := by simp [vecOf]
theorem vecOf_get (n : Nat) (f : Nat → Int) (k : Nat) (hk : k < n) : (vecOf n f)[k]?.getD 0 = f k := by simp [vecOf, hk]
theorem vecOf_set (n : Nat) (f : Nat → Int) (k : Nat) (x : Int) : (vecOf n f).set k x = vecOf n (fun i => if i = k then x else f i) := by
  apply List.ext_getElem?
  intro i
  rw [List.getElem?_set]
  unfold vecOf
  by_cases hi : i < n
  · by_cases e : k = i
    · subst e; simp [hi]
    · have e' : ¬ i = k := fun h => e h.symm
      simp [e, e', hi]
  · by_cases e : k = i
    · subst e; simp [hi]
    · simp [e, hi]
theorem vecOf_congr (n : Nat) (f g : Nat → Int) (h : ∀ k, k < n → f k = g k) : vecOf n f = vecOf n g := by
  unfold vecOf
  exact List.map_congr_left fun k hk => h k (List.mem_range.1 hk)
theorem vecOf_self (ds : List Int) : vecOf ds.length (fun i => ds[i]?.getD 0) = ds := by
  apply List.ext_getElem?
  intro i
  unfold vecOf
  by_cases hi : i < ds.length <;> simp [hi]

/-- The numbers below k with p, as integers. -/
def waitTo (p : Nat → Bool) (k : Nat) : List Int := ((List.range k).filter p).map fun v : Nat => (v : Int)
theorem waitTo_succ (p : Nat → Bool) (k : Nat) : waitTo p (k + 1) = if p k then waitTo p k ++ [(k : Int)] else waitTo p k := by
  unfold waitTo
  rw [List.range_succ, List.filter_append]
  by_cases h : p k <;> simp [h]
theorem waitTo_len (p : Nat → Bool) (k : Nat) : (waitTo p k).length ≤ k := by
  unfold waitTo
  rw [List.length_map]
  exact Nat.le_trans (List.length_filter_le _ _) (by simp)
theorem waitTo_mem (p : Nat → Bool) (k : Nat) (x : Int) (h : x ∈ waitTo p k) : 0 ≤ x ∧ x < k ∧ p x.toNat = true := by
  unfold waitTo at h
  obtain ⟨v, hv, rfl⟩ := List.mem_map.1 h
  obtain ⟨h1, h2⟩ := List.mem_filter.1 hv
  have := List.mem_range.1 h1
  exact ⟨by omega, by omega, by simpa using h2⟩
theorem waitTo_congr (p q : Nat → Bool) (k : Nat) (h : ∀ v, v < k → p v = q v) : waitTo p k = waitTo q k := by
  unfold waitTo
  rw [show (List.range k).filter p = (List.range k).filter q from List.filter_congr fun v hv => h v (List.mem_range.1 hv)]

/-- Is v unstable? -/
def unst (q : Int) (val : Nat → Int) (ds : List Int) (v : Nat) : Bool := decide ((v : Int) ≠ q) && decide (val v ≤ ds[v]?.getD 0)

/-- One more integer to an owned row. -/
theorem wpList_app1 {P : Program} (wr : World) {ops : Array Oper} {rest : List Oper} {o : Oper} {a : Act} {Q : Exit → Act → World → Prop}
    (hgd : o.guard = none) (s xop : Operand) (t : TypeId) (ho : o.op = .call { callee := .builtin .append, args := #[s, xop], argTypes := #[t, t] })
    (e : TypeId) (ht : P.underlying t = some (.slice e)) (hinfo : (P.info? e).map (fun i => (i.zero, i.size, i.bytes)) = some (some (.int .i64 0), 1, 8))
    (base : Nat) (v : Value) (xs : List Int) (hown : wr.ownsRow base e 1 v xs.length (xs.map (Value.int .i64))) (x : Int) (B : Nat) (hBs : B = wr.heap.size)
    (hs : a.eval s = v) (hx : a.eval xop = .slice (some ⟨B, 0, none⟩) 1 1) (hlen : xs.length ≤ 1000000000000) (hbase : base ≤ wr.heap.size)
    (h : ∀ v' w', w'.ownsRow base e 1 v' (xs ++ [x]).length ((xs ++ [x]).map (Value.int .i64)) → wr.grownBy w' v.ownBlock → (∀ k, v.ownBlock = some k → base ≤ k) → wpList P ops Q rest (a.put o.dst v') w') :
    wpList P ops Q (o :: rest) a (wr.alloc (.cells #[.int .i64 x] e)) := by
  obtain ⟨i, hi, hz, hsz, hby⟩ := info_parts hinfo
  subst hBs
  refine wpList_append_own _ hgd s xop t ho base e i (.int .i64 0) 1 8 ht hi hz hsz hby rfl (by decide) v xs.length _ hs (hown.alloc _) ⟨wr.heap.size, 0, none⟩ 1 1 [.int .i64 x] hx rfl (cell_one_new _ _ _) (by simp [Value.oneCell']) (by unfold maxLen; omega) (by omega) (by simp; omega) ?_
  intro v' w' hown' hgr _
  refine h v' w' ?_ ?_ (fun k hk => (hown.lt k hk).1)
  · simpa using hown'
  · refine ⟨hgr.os, hgr.tape, hgr.output, by have := hgr.size; simp at this; omega, fun k hk hne => ?_⟩
    rw [hgr.block k (by simp; omega) hne]
    exact Below.heap_alloc _ _ _ hk

theorem below_grown {B base : Nat} {W w w' : World} {v : Value} (hB : Below B W w) (hs : B ≤ w.heap.size) (hg : w.grownBy w' v.ownBlock) (hb : ∀ k, v.ownBlock = some k → base ≤ k) (hbb : B ≤ base) : Below B W w' :=
  hB.grown hg hs fun k hk => Nat.le_trans hbb (hb k hk)

theorem below_dN {B : Nat} {W w : World} (h : Below B W w) (n : Nat) : Below B W (w.drewN n) := h.trans ⟨rfl, rfl, rfl, Nat.le_refl _, fun _ _ => rfl⟩
theorem owns_dN {w : World} {base : Nat} {e : TypeId} {size : Nat} {v : Value} {m : Nat} {xs : List Value} (h : w.ownsRow base e size v m xs) (n : Nat) : (w.drewN n).ownsRow base e size v m xs := h
theorem cell_dN (w : World) (n : Nat) (a : Addr) : (w.drewN n).cell? a = w.cell? a := rfl

end Go.Proofs.Ytlhbgainpeehoaa
