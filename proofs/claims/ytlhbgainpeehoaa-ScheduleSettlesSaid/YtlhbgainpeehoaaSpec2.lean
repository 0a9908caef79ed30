/-
  Plain definitions and laws: what is reached from a vertex, and the number of parts, as the reference reckons them.
-/
import Derived.Test.YtlhbgainpeehoaaSpec
namespace Go.Proofs.Ytlhbgainpeehoaa
open Go.RowKit

def rStp (g : G) (a b : Nat) (l : List Bool) : List Bool := if (l[a]?.getD false) && decide (0 < btw g a b) then l.set b true else l
def rB (g : G) (a : Nat) : Nat → List Bool → List Bool
  | 0, l => l
  | k + 1, l => rStp g a k (rB g a k l)
def rA (g : G) : Nat → List Bool → List Bool
  | 0, l => l
  | k + 1, l => rB g k g.n.toNat (rA g k l)
def rR (g : G) : Nat → List Bool → List Bool
  | 0, l => l
  | k + 1, l => rA g g.n.toNat (rR g k l)
def reached (g : G) (v : Int) : List Bool := rR g g.n.toNat ((List.replicate g.n.toNat false).set v.toNat true)

theorem rStp_len (g : G) (a b : Nat) (l : List Bool) : (rStp g a b l).length = l.length := by unfold rStp; split <;> simp
theorem rB_len (g : G) (a : Nat) (l : List Bool) : ∀ k, (rB g a k l).length = l.length
  | 0 => rfl
  | k + 1 => by rw [rB, rStp_len, rB_len g a l k]
theorem rA_len (g : G) (l : List Bool) : ∀ k, (rA g k l).length = l.length
  | 0 => rfl
  | k + 1 => by rw [rA, rB_len, rA_len g l k]
theorem rR_len (g : G) (l : List Bool) : ∀ k, (rR g k l).length = l.length
  | 0 => rfl
  | k + 1 => by rw [rR, rA_len, rR_len g l k]
theorem reached_len (g : G) (v : Int) : (reached g v).length = g.n.toNat := by simp [reached, rR_len]

/-- seen[u] = seen[u] or r[u], for u < k. -/
def orTo (r : List Bool) : Nat → List Bool → List Bool
  | 0, s => s
  | k + 1, s => (orTo r k s).set k (((orTo r k s)[k]?.getD false) || (r[k]?.getD false))
theorem orTo_len (r s : List Bool) : ∀ k, (orTo r k s).length = s.length
  | 0 => rfl
  | k + 1 => by simp [orTo, orTo_len r s k]
def partsTo (g : G) : Nat → Int × List Bool
  | 0 => (0, List.replicate g.n.toNat false)
  | k + 1 => if (partsTo g k).2[k]?.getD false then partsTo g k else ((partsTo g k).1 + 1, orTo (reached g k) g.n.toNat (partsTo g k).2)
def parts (g : G) : Int := (partsTo g g.n.toNat).1
theorem partsTo_len (g : G) : ∀ k, (partsTo g k).2.length = g.n.toNat
  | 0 => by simp [partsTo]
  | k + 1 => by unfold partsTo; split <;> simp [orTo_len, partsTo_len g k]
theorem partsTo_bd (g : G) : ∀ k : Nat, 0 ≤ (partsTo g k).1 ∧ (partsTo g k).1 ≤ k
  | 0 => by simp [partsTo]
  | k + 1 => by have := partsTo_bd g k; unfold partsTo; split <;> first | omega | (simp only; omega)

/-- The error of a graph with a sink. -/
def rootedErr (g : G) (q : Int) : Int := if checkErr g ≠ 0 then checkErr g else if parts g ≠ 1 then 13 else if vtx g.n q then 0 else 2

def inB (k : Int) : Bool := decide (-1048576 ≤ k) && decide (k ≤ 1048576)
/-- The error of a divisor on n vertices. -/
def dErr (ds : List Int) (n : Int) : Int := if n < 1 ∨ 12 < n then 2 else if (ds.length : Int) ≠ n then 8 else if ds.all inB then 0 else 2

/-- Does one of f i, f (i + 1), .., n of them, hold? -/
def anyFrom (f : Nat → Bool) : Nat → Nat → Bool
  | _, 0 => false
  | i, n + 1 => if f i then true else anyFrom f (i + 1) n
theorem anyFrom_step (f : Nat → Bool) (i n : Nat) (h : i < n) : anyFrom f i (n - i) = if f i then true else anyFrom f (i + 1) (n - (i + 1)) := by
  obtain ⟨k, rfl⟩ : ∃ k, n = i + k + 1 := ⟨n - i - 1, by omega⟩
  rw [show i + k + 1 - i = k + 1 by omega, show i + k + 1 - (i + 1) = k by omega]; rfl
theorem anyFrom_end (f : Nat → Bool) (i n : Nat) (h : n ≤ i) : anyFrom f i (n - i) = false := by
  rw [Nat.sub_eq_zero_of_le h]; rfl
theorem anyFrom_iff (f : Nat → Bool) : ∀ n i, anyFrom f i n = true ↔ ∃ k, i ≤ k ∧ k < i + n ∧ f k = true
  | 0, i => by simp [anyFrom]; intro k h1 h2; omega
  | n + 1, i => by
    unfold anyFrom
    split
    · rename_i h; simp only [true_iff]; exact ⟨i, Nat.le_refl _, by omega, h⟩
    · rename_i h
      rw [anyFrom_iff f n (i + 1)]
      constructor
      · rintro ⟨k, h1, h2, h3⟩; exact ⟨k, by omega, by omega, h3⟩
      · rintro ⟨k, h1, h2, h3⟩
        refine ⟨k, ?_, by omega, h3⟩
        rcases Nat.eq_or_lt_of_le h1 with e | e
        · subst e; exact absurd h3 h
        · exact e

/-- Is there a debt at v, which is not the sink? -/
def debtAt (q : Int) (ds : List Int) (v : Nat) : Bool := decide ((v : Int) ≠ q) && decide (ds[v]?.getD 0 < 0)
/-- The error of a configuration. -/
def cfgErr (g : G) (q : Int) (ds : List Int) : Int :=
  if rootedErr g q ≠ 0 then rootedErr g q else if dErr ds g.n ≠ 0 then dErr ds g.n else if anyFrom (debtAt q ds) 0 g.n.toNat then 2 else 0

theorem rooted_ok {g : G} {q : Int} (h : rootedErr g q = 0) : Gok g ∧ 0 ≤ q ∧ q < g.n := by
  unfold rootedErr at h
  unfold Gok
  by_cases hc : checkErr g = 0
  · refine ⟨hc, ?_⟩
    simp only [hc] at h
    by_cases hp : parts g = 1
    · simp [hp] at h
      unfold vtx at h
      simpa using h
    · simp [hp] at h
  · simp [hc] at h

theorem dErr_ok {ds : List Int} {n : Int} (h : dErr ds n = 0) : 1 ≤ n ∧ n ≤ 12 ∧ (ds.length : Int) = n ∧ ∀ k ∈ ds, -1048576 ≤ k ∧ k ≤ 1048576 := by
  unfold dErr at h
  by_cases h1 : n < 1 ∨ 12 < n
  · simp [h1] at h
  by_cases h2 : (ds.length : Int) = n
  · rw [if_neg h1, if_neg (by simpa using h2)] at h
    by_cases h3 : ds.all inB = true
    · refine ⟨by omega, by omega, h2, fun k hk => ?_⟩
      have := List.all_eq_true.1 h3 k hk
      simpa [inB] using this
    · simp [h3] at h
  · rw [if_neg h1, if_pos h2] at h; omega

end Go.Proofs.Ytlhbgainpeehoaa
