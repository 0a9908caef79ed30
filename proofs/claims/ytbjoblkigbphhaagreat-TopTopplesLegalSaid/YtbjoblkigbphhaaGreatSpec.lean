/-
  Plain definitions and laws on graphs; no program in sight.
-/
import Derived.Test.YtbjoblkigbphhaaGreatLib
namespace Go.Proofs.YtbjoblkigbphhaaGreat
open Go.RowKit

def vtx (n v : Int) : Bool := decide (0 ≤ v) && decide (v < n)

/-- The error of edge i. -/
def edgeErr (g : G) (i : Nat) : Int :=
  if !vtx g.n (g.es[i]?.getD default).a || !vtx g.n (g.es[i]?.getD default).b || decide ((g.es[i]?.getD default).m < 1) || decide (50 < (g.es[i]?.getD default).m) then 2
  else if (g.es[i]?.getD default).b < (g.es[i]?.getD default).a then 9
  else if 0 < i ∧ ((g.es[i]?.getD default).a < (g.es[i - 1]?.getD default).a ∨ (g.es[i]?.getD default).a = (g.es[i - 1]?.getD default).a ∧ (g.es[i]?.getD default).b ≤ (g.es[i - 1]?.getD default).b) then 9
  else 0

/-- The error of a graph. -/
def checkErr (g : G) : Int := if g.n < 1 ∨ 12 < g.n then 2 else firstNZ (edgeErr g) 0 g.es.length

/-- How often lo and hi are joined. -/
def bet (lo hi : Int) : List E → Int
  | [] => 0
  | x :: es => if x.a = lo ∧ x.b = hi then x.m else bet lo hi es

theorem drop_step {α : Type} [Inhabited α] (l : List α) (k : Nat) (h : k < l.length) : l.drop k = (l[k]?.getD default) :: l.drop (k + 1) := by
  rw [List.drop_eq_getElem_cons h]; simp [h]


theorem firstNZ_zero (f : Nat → Int) : ∀ n i, firstNZ f i n = 0 → ∀ k, i ≤ k → k < i + n → f k = 0 := by
  intro n
  induction n with
  | zero => intro i _ k h1 h2; omega
  | succ n ih =>
    intro i h k h1 h2
    unfold firstNZ at h
    split at h
    · exact absurd h (by assumption)
    · rename_i h0
      by_cases e : k = i
      · subst e; simpa using h0
      · exact ih (i + 1) h k (by omega) (by omega)

/-- A right graph. -/
def Gok (g : G) : Prop := checkErr g = 0

theorem Gok.n {g : G} (h : Gok g) : 1 ≤ g.n ∧ g.n ≤ 12 := by
  unfold Gok checkErr at h
  split at h
  · omega
  · omega

theorem Gok.edge {g : G} (h : Gok g) (k : Nat) (hk : k < g.es.length) : edgeErr g k = 0 := by
  unfold Gok checkErr at h
  split at h
  · omega
  · exact firstNZ_zero _ _ _ h k (Nat.zero_le _) (by omega)

theorem Gok.ends {g : G} (h : Gok g) (k : Nat) (hk : k < g.es.length) :
    0 ≤ (g.es[k]?.getD default).a ∧ (g.es[k]?.getD default).a ≤ (g.es[k]?.getD default).b ∧ (g.es[k]?.getD default).b < g.n ∧
      1 ≤ (g.es[k]?.getD default).m ∧ (g.es[k]?.getD default).m ≤ 50 := by
  have he := h.edge k hk
  unfold edgeErr vtx at he
  grind

theorem Gok.mem {g : G} (h : Gok g) {x : E} (hx : x ∈ g.es) : 0 ≤ x.a ∧ x.a ≤ x.b ∧ x.b < g.n ∧ 1 ≤ x.m ∧ x.m ≤ 50 := by
  obtain ⟨k, hk, rfl⟩ := List.mem_iff_getElem.1 hx
  have := h.ends k hk
  simpa [hk] using this

theorem bet_mem (lo hi : Int) (P : Int → Prop) (h0 : P 0) : ∀ es : List E, (∀ x ∈ es, P x.m) → P (bet lo hi es)
  | [], _ => h0
  | x :: es, h => by
    unfold bet
    split
    · exact h x (by simp)
    · exact bet_mem lo hi P h0 es fun y hy => h y (by simp [hy])

theorem Gok.bet_bd {g : G} (h : Gok g) (lo hi : Int) : 0 ≤ bet lo hi g.es ∧ bet lo hi g.es ≤ 50 :=
  bet_mem lo hi (fun m => 0 ≤ m ∧ m ≤ 50) (by omega) g.es fun x hx => by have := h.mem hx; omega

/-- f 0 + .. + f (n - 1). -/
def sumTo (f : Nat → Int) : Nat → Int
  | 0 => 0
  | n + 1 => sumTo f n + f n

theorem sumTo_bd (f : Nat → Int) (c : Int) (h : ∀ k, 0 ≤ f k ∧ f k ≤ c) : ∀ n : Nat, 0 ≤ sumTo f n ∧ sumTo f n ≤ n * c
  | 0 => by simp [sumTo]
  | n + 1 => by
    have h1 := sumTo_bd f c h n
    have h2 := h n
    unfold sumTo
    have : ((n + 1 : Nat) : Int) * c = n * c + c := by rw [Int.natCast_succ, Int.add_mul]; simp
    omega

/-- The number of single edges from v to the vertex u, loops left out. -/
def btw (g : G) (u v : Int) : Int := bet (min u v) (max u v) g.es
def valTerm (g : G) (v : Int) (u : Nat) : Int := if (u : Int) ≠ v then btw g u v else 0
/-- The valence of v. -/
def valence (g : G) (v : Int) : Int := sumTo (valTerm g v) g.n.toNat

theorem Gok.btw_bd {g : G} (h : Gok g) (u v : Int) : 0 ≤ btw g u v ∧ btw g u v ≤ 50 := h.bet_bd _ _
theorem Gok.valTerm_bd {g : G} (h : Gok g) (v : Int) (u : Nat) : 0 ≤ valTerm g v u ∧ valTerm g v u ≤ 50 := by
  unfold valTerm
  have := h.btw_bd u v
  split <;> omega

theorem Gok.valence_bd {g : G} (h : Gok g) (v : Int) (k : Nat) (hk : k ≤ g.n.toNat) : 0 ≤ sumTo (valTerm g v) k ∧ sumTo (valTerm g v) k ≤ 600 := by
  have h1 := sumTo_bd (valTerm g v) 50 (h.valTerm_bd v) k
  have := h.n
  omega

theorem Gok.code {g : G} (h : Gok g) : ∀ k : Nat, k < g.es.length → (k : Int) ≤ (g.es[k]?.getD default).a * 12 + (g.es[k]?.getD default).b
  | 0, hk => by have := h.ends 0 hk; omega
  | k + 1, hk => by
    have h1 := h.code k (by omega)
    have h2 := h.ends k (by omega)
    have h3 := h.ends (k + 1) hk
    have h4 := h.edge (k + 1) hk
    have hn := h.n
    unfold edgeErr at h4
    simp only [Nat.add_sub_cancel] at h4
    generalize g.es[k]?.getD default = y at *
    generalize g.es[k + 1]?.getD default = x at *
    grind

theorem Gok.len {g : G} (h : Gok g) : g.es.length ≤ 144 := by
  rcases Nat.eq_zero_or_pos g.es.length with h0 | h0
  · omega
  · have h1 := h.code (g.es.length - 1) (by omega)
    have h2 := h.ends (g.es.length - 1) (by omega)
    have hn := h.n
    omega

/-- The ends of the single edges. -/
def endsOf (es : List E) : List (Int × Int) := es.flatMap fun x => List.replicate x.m.toNat (x.a, x.b)
def pairCells (ps : List (Int × Int)) : List Value := ps.flatMap fun p => [.int .i64 p.1, .int .i64 p.2]

theorem pairCells_append (a b : List (Int × Int)) : pairCells (a ++ b) = pairCells a ++ pairCells b := by simp [pairCells]

theorem endsOf_append (a b : List E) : endsOf (a ++ b) = endsOf a ++ endsOf b := by simp [endsOf]
theorem endsOf_len : ∀ (es : List E) (c : Nat), (∀ x ∈ es, x.m ≤ c) → (endsOf es).length ≤ es.length * c
  | [], _, _ => by simp [endsOf]
  | x :: es, c, h => by
    have h1 := endsOf_len es c fun y hy => h y (by simp [hy])
    have h2 := h x (by simp)
    simp only [endsOf, List.flatMap_cons, List.length_append, List.length_replicate, List.length_cons, Nat.add_mul] at *
    omega
theorem take_step {α : Type} [Inhabited α] (l : List α) (k : Nat) (h : k < l.length) : l.take (k + 1) = l.take k ++ [l[k]?.getD default] := by
  rw [List.take_succ_eq_append_getElem h]; simp [h]

end Go.Proofs.YtbjoblkigbphhaaGreat
