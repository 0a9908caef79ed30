/-
  Plain laws: rounds in which all that are ready fire at once.
-/
import Derived.Test.YtbjoblkigbphhaaGreatAb
namespace Go.Proofs.YtbjoblkigbphhaaGreat
open Go.RowKit

/-- The vertices that fire in a round. -/
def isRdy (g : G) (q : Int) (L : Nat → Int) (v : Nat) : Bool := decide ((v : Int) ≠ q) && (decide (0 < valence g v) && decide (valence g v ≤ L v))
def rdyN (g : G) (q : Int) (N : Nat) (L : Nat → Int) : List Int := waitTo (isRdy g q L) N
/-- What is there when the vertices of a list have fired, one after the other. -/
def fireAll (g : G) (l : List Int) (L : Nat → Int) : Nat → Int := l.foldl (fun L v => fireL g v.toNat L) L
theorem fireAll_nil (g : G) (L : Nat → Int) : fireAll g [] L = L := rfl
theorem fireAll_cons (g : G) (v : Int) (l : List Int) (L : Nat → Int) : fireAll g (v :: l) L = fireAll g l (fireL g v.toNat L) := rfl
theorem fireAll_step (g : G) (l : List Int) (L : Nat → Int) (k : Nat) (hk : k < l.length) : fireAll g (l.take (k + 1)) L = fireL g (l[k]?.getD 0).toNat (fireAll g (l.take k) L) := by
  unfold fireAll
  rw [List.take_succ_eq_append_getElem hk, List.foldl_append, List.getElem?_eq_getElem hk]
  rfl
theorem fireL_bd {g : G} (hg : Gok g) {N : Nat} {c : Int} {L : Nat → Int} (h : ∀ u, u < N → -c ≤ L u ∧ L u ≤ c) (v : Nat) : ∀ u, u < N → -(c + 700) ≤ fireL g v L u ∧ fireL g v L u ≤ c + 700 := fun u hu => by
  have h1 := h u hu
  have h2 := rowsF_bd hg v u
  have h3 := val_bd hg v
  unfold fireL
  split <;> omega
theorem fireAll_bd {g : G} (hg : Gok g) {N : Nat} : ∀ (l : List Int) (c : Int) (L : Nat → Int), (∀ u, u < N → -c ≤ L u ∧ L u ≤ c) → ∀ u, u < N → -(c + 700 * l.length) ≤ fireAll g l L u ∧ fireAll g l L u ≤ c + 700 * l.length
  | [], c, L, h, u, hu => by have := h u hu; rw [fireAll_nil]; simp; omega
  | v :: l, c, L, h, u, hu => by
    have := fireAll_bd hg l (c + 700) (fireL g v.toNat L) (fireL_bd hg h v.toNat) u hu
    rw [fireAll_cons]
    simp only [List.length_cons]
    omega
/-- One round: what is there, how often each has fired. -/
def rnd (g : G) (q : Int) (N : Nat) (s : St) : St := (rdyN g q N s.L).foldl (fun s v => fireK g v.toNat 1 s) s
/-- So many rounds. -/
def rndTo (g : G) (q : Int) (N : Nat) (s : St) : Nat → St
  | 0 => s
  | k + 1 => rnd g q N (rndTo g q N s k)
theorem fold_L (g : G) : ∀ (l : List Int) (s : St), (l.foldl (fun s v => fireK g v.toNat 1 s) s).L = fireAll g l s.L
  | [], _ => rfl
  | v :: l, s => by
    rw [List.foldl_cons, fold_L g l, fireAll_cons]
    congr 1
    rw [← fireS_K]
    rfl
def cntAll (l : List Int) (T : Nat → Int) : Nat → Int := l.foldl (fun T v => addT T v.toNat 1) T
theorem fold_T (g : G) : ∀ (l : List Int) (s : St), (l.foldl (fun s v => fireK g v.toNat 1 s) s).T = cntAll l s.T
  | [], _ => rfl
  | v :: l, s => by rw [List.foldl_cons, fold_T g l]; rfl
theorem rnd_L (g : G) (q : Int) (N : Nat) (s : St) : (rnd g q N s).L = fireAll g (rdyN g q N s.L) s.L := fold_L g _ s
theorem rnd_T (g : G) (q : Int) (N : Nat) (s : St) : (rnd g q N s).T = cntAll (rdyN g q N s.L) s.T := fold_T g _ s
theorem cntAll_step (l : List Int) (T : Nat → Int) (k : Nat) (hk : k < l.length) : cntAll (l.take (k + 1)) T = addT (cntAll (l.take k) T) (l[k]?.getD 0).toNat 1 := by
  unfold cntAll
  rw [List.take_succ_eq_append_getElem hk, List.foldl_append, List.getElem?_eq_getElem hk]
  rfl
theorem rdy_len (g : G) (q : Int) (N : Nat) (L : Nat → Int) : (rdyN g q N L).length ≤ N := waitTo_len _ _
theorem rdy_mem (g : G) (q : Int) (N : Nat) (L : Nat → Int) (v : Int) (h : v ∈ rdyN g q N L) : ∃ u : Nat, v = u ∧ u < N ∧ (u : Int) ≠ q ∧ 0 < valence g u ∧ valence g u ≤ L u := by
  obtain ⟨q1, q2, q3⟩ := waitTo_mem (isRdy g q L) N v h
  obtain ⟨u, rfl⟩ := Int.eq_ofNat_of_zero_le q1
  refine ⟨u, rfl, by omega, ?_⟩
  rw [Int.toNat_natCast] at q3
  unfold isRdy at q3
  simp at q3
  exact q3
theorem cnt_sum {N : Nat} : ∀ (l : List Int) (T : Nat → Int), (∀ v ∈ l, ∃ u : Nat, v = u ∧ u < N) → sumTo (cntAll l T) N = sumTo T N + l.length
  | [], T, _ => by simp [cntAll]
  | v :: l, T, h => by
    obtain ⟨u, rfl, hu⟩ := h v (by simp)
    have := cnt_sum l (addT T u 1) fun v hv => h v (by simp [hv])
    show sumTo (cntAll l (addT T u 1)) N = _
    rw [this, show sumTo (addT T u 1) N = sumTo T N + 1 from sumTo_at T u 1 N hu]
    simp only [List.length_cons]; omega
theorem rnd_sum (g : G) (q : Int) (N : Nat) (s : St) : sumTo (rnd g q N s).T N = sumTo s.T N + (rdyN g q N s.L).length := by
  rw [rnd_T]
  exact cnt_sum _ _ fun v hv => by obtain ⟨u, h1, h2, _⟩ := rdy_mem g q N s.L v hv; exact ⟨u, h1, h2⟩
theorem cnt_nn : ∀ (l : List Int) (T : Nat → Int), (∀ u, 0 ≤ T u) → ∀ u, 0 ≤ cntAll l T u
  | [], _, h => h
  | v :: l, T, h => cnt_nn l (addT T v.toNat 1) fun u => by have := h u; unfold addT; split <;> omega
theorem rndTo_sum_mono (g : G) (q : Int) (N : Nat) (s : St) (k : Nat) : sumTo (rndTo g q N s k).T N ≤ sumTo (rndTo g q N s (k + 1)).T N := by
  show _ ≤ sumTo (rnd g q N (rndTo g q N s k)).T N
  rw [rnd_sum]; omega
theorem rndTo_sum_le (g : G) (q : Int) (N : Nat) (s : St) : ∀ k m, k ≤ m → sumTo (rndTo g q N s k).T N ≤ sumTo (rndTo g q N s m).T N
  | k, 0, h => by obtain rfl : k = 0 := by omega
                  exact Int.le_refl _
  | k, m + 1, h => by
    by_cases e : k = m + 1
    · subst e; exact Int.le_refl _
    · exact Int.le_trans (rndTo_sum_le g q N s k m (by omega)) (rndTo_sum_mono g q N s m)
theorem rndTo_sum_ge (g : G) (q : Int) (N : Nat) (s : St) (R : Nat) (hne : ∀ i, i < R → rdyN g q N (rndTo g q N s i).L ≠ []) : ∀ k, k ≤ R → sumTo s.T N + k ≤ sumTo (rndTo g q N s k).T N
  | 0, _ => by simp [rndTo]
  | k + 1, h => by
    have h1 := rndTo_sum_ge g q N s R hne k (by omega)
    show _ ≤ sumTo (rnd g q N (rndTo g q N s k)).T N
    rw [rnd_sum]
    have := List.length_pos_iff.2 (hne k (by omega))
    omega

end Go.Proofs.YtbjoblkigbphhaaGreat
