/-
  Plain laws: legal firings never fire more than what stabilizes; so all orders agree.
-/
import Derived.Test.YtbjoblkigbphhaaGreatSpec2
namespace Go.Proofs.YtbjoblkigbphhaaGreat
open Go.RowKit

/-- The divisor behind a script. -/
def lapD (g : G) (N : Nat) (d T : Nat → Int) (u : Nat) : Int := d u - T u * valence g u + sumTo (fun v => T v * rowsF g v u) N
/-- No vertex but the sink is unstable. -/
def StaN (g : G) (q : Int) (N : Nat) (L : Nat → Int) : Prop := ∀ v, v < N → (v : Int) ≠ q → L v < valence g v

theorem sumTo_le (f h : Nat → Int) : ∀ n, (∀ k, k < n → f k ≤ h k) → sumTo f n ≤ sumTo h n
  | 0, _ => Int.le_refl _
  | n + 1, H => by
    show sumTo f n + f n ≤ sumTo h n + h n
    have h1 := sumTo_le f h n fun k hk => H k (by omega)
    have h2 := H n (by omega)
    omega
theorem sumTo_add (f h : Nat → Int) : ∀ n, sumTo (fun k => f k + h k) n = sumTo f n + sumTo h n
  | 0 => rfl
  | n + 1 => by
    show sumTo (fun k => f k + h k) n + (f n + h n) = (sumTo f n + f n) + (sumTo h n + h n)
    rw [sumTo_add f h n]; omega
theorem sumTo_at (f : Nat → Int) (v : Nat) (x : Int) (n : Nat) (hv : v < n) : sumTo (fun w => if w = v then f w + x else f w) n = sumTo f n + x := by
  have h1 : sumTo (fun w => if w = v then f w + x else f w) n = sumTo (fun w => f w + (if w = v then x else 0)) n := sumTo_congr _ _ n fun k _ => by
    show (if k = v then f k + x else f k) = f k + (if k = v then x else 0)
    split <;> omega
  rw [h1, sumTo_add, sumTo_one, if_pos hv]

/-- One vertex fires k times. -/
def addT (T : Nat → Int) (v : Nat) (k : Int) : Nat → Int := fun u => if u = v then T u + k else T u
theorem lapD_fire (g : G) (N : Nat) (d T : Nat → Int) (v : Nat) (k : Int) (hv : v < N) (u : Nat) :
    lapD g N d (addT T v k) u = (if u = v then lapD g N d T u - k * valence g v else lapD g N d T u) + k * rowsF g v u := by
  have h1 : sumTo (fun w => addT T v k w * rowsF g w u) N = sumTo (fun w => T w * rowsF g w u) N + k * rowsF g v u := by
    rw [← sumTo_at (fun w => T w * rowsF g w u) v (k * rowsF g v u) N hv]
    refine sumTo_congr _ _ N fun w _ => ?_
    show addT T v k w * rowsF g w u = if w = v then T w * rowsF g w u + k * rowsF g v u else T w * rowsF g w u
    unfold addT
    split
    · rename_i e; subst e; rw [Int.add_mul]
    · rfl
  unfold lapD
  rw [h1]
  unfold addT
  split
  · rename_i e; subst e; rw [Int.add_mul]; omega
  · omega

theorem least_one {g : G} (hg : Gok g) {N : Nat} {d L T τ : Nat → Int} {v : Nat} {k : Int} (hL : L v ≤ lapD g N d T v) (hk : k * valence g v ≤ L v)
    (hle : ∀ u, u < N → T u ≤ τ u) (hst : lapD g N d τ v < valence g v) : T v + k ≤ τ v := by
  refine Int.not_lt.1 fun hlt => ?_
  have hv0 := (val_bd hg v).1
  have h1 : sumTo (fun w => T w * rowsF g w v) N ≤ sumTo (fun w => τ w * rowsF g w v) N := sumTo_le _ _ N fun w hw => Int.mul_le_mul_of_nonneg_right (hle w hw) (rowsF_bd hg w v).1
  have h2 : 1 * valence g v ≤ (T v + k - τ v) * valence g v := Int.mul_le_mul_of_nonneg_right (by omega) hv0
  rw [Int.sub_mul, Int.add_mul, Int.one_mul] at h2
  unfold lapD at hL hst
  generalize T v * valence g v = a at *
  generalize τ v * valence g v = b at *
  generalize k * valence g v = c at *
  omega

/-- What is there is what the script has left. -/
def Bal (g : G) (N : Nat) (d : Nat → Int) (s : St) : Prop := (∀ u, u < N → s.L u = lapD g N d s.T u) ∧ ∀ u, u < N → 0 ≤ s.T u
theorem bal_start (g : G) (N : Nat) (d : Nat → Int) : Bal g N d ⟨d, fun _ => 0⟩ := by
  refine ⟨fun u _ => ?_, fun u _ => Int.le_refl _⟩
  show d u = lapD g N d (fun _ => 0) u
  unfold lapD
  have : sumTo (fun v => (0 : Int) * rowsF g v u) N = 0 := by
    have h1 : sumTo (fun v => (0 : Int) * rowsF g v u) N = sumTo (fun w => if w = N then (0 : Int) else 0) N := sumTo_congr _ _ N fun k _ => by simp
    rw [h1, sumTo_one]; simp
  rw [this]; simp
/-- A vertex fires k times at once. -/
def fireK (g : G) (v : Nat) (k : Int) (s : St) : St := ⟨fun u => (if u = v then s.L u - k * valence g v else s.L u) + k * rowsF g v u, addT s.T v k⟩
theorem bal_fire {g : G} {N : Nat} {d : Nat → Int} {s : St} (h : Bal g N d s) {v : Nat} (hv : v < N) {k : Int} (hk : 0 ≤ k) : Bal g N d (fireK g v k s) := by
  refine ⟨fun u hu => ?_, fun u hu => ?_⟩
  · show (if u = v then s.L u - k * valence g v else s.L u) + k * rowsF g v u = lapD g N d (addT s.T v k) u
    rw [lapD_fire g N d s.T v k hv u, h.1 u hu]
  · show 0 ≤ addT s.T v k u
    have := h.2 u hu
    unfold addT
    split <;> omega
theorem fireS_K (g : G) (v : Nat) (s : St) : fireS g v s = fireK g v 1 s := by
  unfold fireS fireK
  congr 1
  · funext u
    show (if u = v then s.L u - valence g v else s.L u) + rowsF g v u = _
    simp
theorem sum_fire (g : G) {N : Nat} (s : St) {v : Nat} (hv : v < N) (k : Int) : sumTo (fireK g v k s).T N = sumTo s.T N + k := sumTo_at s.T v k N hv

/-- A script that stabilizes. -/
def Stz (g : G) (q : Int) (N : Nat) (d τ : Nat → Int) : Prop := StaN g q N (lapD g N d τ) ∧ ∀ u, u < N → 0 ≤ τ u
theorem stz_end {g : G} {q : Int} {N : Nat} {d : Nat → Int} {s : St} (h : Bal g N d s) (hw : waitN g q N s.L = []) : Stz g q N d s.T := by
  refine ⟨fun v hv hq => ?_, h.2⟩
  rw [← h.1 v hv]
  refine Int.not_le.1 fun hle => ?_
  have : (v : Int) ∈ waitN g q N s.L := by
    unfold waitN waitTo
    refine List.mem_map.2 ⟨v, List.mem_filter.2 ⟨List.mem_range.2 hv, ?_⟩, rfl⟩
    unfold isUnst
    simp [hq, hle]
  rw [hw] at this
  cases this

/-- Settling: what it ends with is least; if it does not end in time, nothing short stabilizes. -/
theorem sGo_least {g : G} (hg : Gok g) (q : Int) (N : Nat) (d : Nat → Int) (picks : List Int) (hp : ∀ k ∈ picks, 0 ≤ k) : ∀ f i s, Bal g N d s → (∀ τ, Stz g q N d τ → ∀ u, u < N → s.T u ≤ τ u) →
    match sGo g q N picks f i s with
    | some r => Bal g N d r ∧ Stz g q N d r.T ∧ (∀ τ, Stz g q N d τ → ∀ u, u < N → r.T u ≤ τ u) ∧ sumTo r.T N ≤ sumTo s.T N + f
    | none => ∀ τ, Stz g q N d τ → sumTo s.T N + f < sumTo τ N
  | 0, i, s, hb, hl => by
    unfold sGo
    split
    · rename_i r e
      split at e
      · rename_i hw
        obtain rfl := Option.some.inj e
        exact ⟨hb, stz_end hb hw, hl, by omega⟩
      · cases e
    · rename_i e
      split at e
      · cases e
      · rename_i hw
        intro τ ht
        obtain ⟨h1, h2, h3, h4⟩ := chosen_bd g q N s.L 0 (Int.le_refl _) hw
        generalize chosen (waitN g q N s.L) 0 = c at *
        obtain ⟨v, rfl⟩ := Int.eq_ofNat_of_zero_le h1
        rw [Int.toNat_natCast] at h4
        have hv : v < N := by omega
        have h5 := least_one hg (k := 1) (Int.le_of_eq (hb.1 v hv)) (by omega) (hl τ ht) (ht.1 v hv h3)
        have h6 : sumTo (addT s.T v 1) N ≤ sumTo τ N := sumTo_le _ _ N fun u hu => by
          have := hl τ ht u hu
          unfold addT
          split
          · rename_i e; subst e; exact h5
          · exact this
        have h7 := sumTo_at s.T v 1 N hv
        have h8 : sumTo (addT s.T v 1) N = sumTo s.T N + 1 := h7
        omega
  | f + 1, i, s, hb, hl => by
    unfold sGo
    by_cases hw : waitN g q N s.L = []
    · rw [if_pos hw]
      exact ⟨hb, stz_end hb hw, hl, by omega⟩
    · rw [if_neg hw]
      obtain ⟨h1, h2, h3, h4⟩ := chosen_bd g q N s.L (pickAt picks i) (pickAt_nn picks hp i) hw
      unfold stp
      generalize chosen (waitN g q N s.L) (pickAt picks i) = c at *
      obtain ⟨v, rfl⟩ := Int.eq_ofNat_of_zero_le h1
      rw [Int.toNat_natCast] at *
      have hv : v < N := by omega
      rw [fireS_K]
      have hl' : ∀ τ, Stz g q N d τ → ∀ u, u < N → (fireK g v 1 s).T u ≤ τ u := fun τ ht u hu => by
        have h5 := least_one hg (k := 1) (Int.le_of_eq (hb.1 v hv)) (by omega) (hl τ ht) (ht.1 v hv h3)
        have := hl τ ht u hu
        show addT s.T v 1 u ≤ τ u
        unfold addT
        split
        · rename_i e; subst e; exact h5
        · exact this
      have ih := sGo_least hg q N d picks hp f (i + 1) _ (bal_fire hb hv (by omega)) hl'
      have hs := sum_fire g s hv 1
      split
      · rename_i r e
        rw [e] at ih
        exact ⟨ih.1, ih.2.1, ih.2.2.1, by have := ih.2.2.2; omega⟩
      · rename_i e
        rw [e] at ih
        intro τ ht
        have := ih τ ht
        omega

/-- Stabilizing: the least unstable vertex fires as often as is legal at once. -/
def stGo (g : G) (q : Int) (N : Nat) : Nat → Int → St → Option St
  | 0, _, s => if waitN g q N s.L = [] then some s else none
  | f + 1, t, s => match waitN g q N s.L with
    | [] => some s
    | v :: _ => if (maxF : Int) < t + s.L v.toNat / valence g v then none else stGo g q N f (t + s.L v.toNat / valence g v) (fireK g v.toNat (s.L v.toNat / valence g v) s)
theorem wait_head {g : G} {q : Int} {N : Nat} {L : Nat → Int} {v : Int} {l : List Int} (h : waitN g q N L = v :: l) : ∃ u : Nat, v = u ∧ u < N ∧ (u : Int) ≠ q ∧ valence g u ≤ L u := by
  obtain ⟨q1, q2, q3⟩ := waitTo_mem (isUnst g q L) N v (by rw [show waitTo (isUnst g q L) N = v :: l from h]; exact List.mem_cons_self)
  obtain ⟨u, rfl⟩ := Int.eq_ofNat_of_zero_le q1
  refine ⟨u, rfl, by omega, ?_, ?_⟩
  · unfold isUnst at q3; simp at q3; exact q3.1
  · unfold isUnst at q3; simp at q3; exact q3.2
theorem div_legal {a b : Int} (hb : 0 < b) (h : b ≤ a) : 1 ≤ a / b ∧ a / b * b ≤ a := by
  refine ⟨?_, Int.ediv_mul_le a (by omega)⟩
  have := Int.ediv_le_ediv hb h
  rwa [Int.ediv_self (by omega)] at this
theorem stGo_least {g : G} (hg : Gok g) (q : Int) (N : Nat) (d : Nat → Int) (hpos : ∀ v, v < N → (v : Int) ≠ q → 0 < valence g v) : ∀ (f : Nat) (t : Int) (s : St), Bal g N d s → (∀ τ, Stz g q N d τ → ∀ u, u < N → s.T u ≤ τ u) →
    t = sumTo s.T N → t ≤ maxF → (maxF : Int) - t < f →
    match stGo g q N f t s with
    | some r => Bal g N d r ∧ Stz g q N d r.T ∧ (∀ τ, Stz g q N d τ → ∀ u, u < N → r.T u ≤ τ u) ∧ sumTo r.T N ≤ maxF
    | none => ∀ τ, Stz g q N d τ → (maxF : Int) < sumTo τ N
  | 0, t, s, _, _, _, h1, h2 => by exfalso; omega
  | f + 1, t, s, hb, hl, ht, h1, h2 => by
    unfold stGo
    cases hw : waitN g q N s.L with
    | nil => exact ⟨hb, stz_end hb hw, hl, by omega⟩
    | cons v l =>
      dsimp only
      obtain ⟨u, rfl, hu, hq, hle⟩ := wait_head hw
      rw [Int.toNat_natCast]
      obtain ⟨k1, k2⟩ := div_legal (hpos u hu hq) hle
      generalize s.L u / valence g u = k at *
      have hl' : ∀ τ, Stz g q N d τ → ∀ w, w < N → (fireK g u k s).T w ≤ τ w := fun τ ht w hw => by
        have h5 := least_one hg (k := k) (Int.le_of_eq (hb.1 u hu)) k2 (hl τ ht) (ht.1 u hu hq)
        have := hl τ ht w hw
        show addT s.T u k w ≤ τ w
        unfold addT
        split
        · rename_i e; subst e; exact h5
        · exact this
      have hs := sum_fire g s hu k
      by_cases hm : (maxF : Int) < t + k
      · rw [if_pos hm]
        intro τ ht'
        have := sumTo_le _ _ N (hl' τ ht')
        omega
      · rw [if_neg hm]
        exact stGo_least hg q N d hpos f (t + k) _ (bal_fire hb hu (by omega)) hl' (by omega) (by omega) (by omega)

theorem bal_eq {g : G} {N : Nat} {d : Nat → Int} {s r : St} (hs : Bal g N d s) (hr : Bal g N d r) (hT : ∀ u, u < N → s.T u = r.T u) : ∀ u, u < N → s.L u = r.L u := fun u hu => by
  rw [hs.1 u hu, hr.1 u hu]
  unfold lapD
  rw [hT u hu, sumTo_congr (fun v => s.T v * rowsF g v u) (fun v => r.T v * rowsF g v u) N fun k hk => by show s.T k * _ = r.T k * _; rw [hT k hk]]

/-- Settling by any picks, and stabilizing: the same. -/
theorem settle_stab {g : G} (hg : Gok g) (q : Int) (N : Nat) (d : Nat → Int) (picks : List Int) (hp : ∀ k ∈ picks, 0 ≤ k) (hpos : ∀ v, v < N → (v : Int) ≠ q → 0 < valence g v) :
    match sGo g q N picks maxF 0 ⟨d, fun _ => 0⟩, stGo g q N (maxF + 1) 0 ⟨d, fun _ => 0⟩ with
    | some s, some r => (∀ u, u < N → s.L u = r.L u) ∧ ∀ u, u < N → s.T u = r.T u
    | none, none => True
    | _, _ => False := by
  have z : sumTo (fun _ => (0 : Int)) N = 0 := by
    have h1 : sumTo (fun _ => (0 : Int)) N = sumTo (fun w => if w = N then (0 : Int) else 0) N := sumTo_congr _ _ N fun k _ => by simp
    rw [h1, sumTo_one]; simp
  have h1 := sGo_least hg q N d picks hp maxF 0 _ (bal_start g N d) (fun τ ht u hu => ht.2 u hu)
  have h2 := stGo_least hg q N d hpos (maxF + 1) 0 _ (bal_start g N d) (fun τ ht u hu => ht.2 u hu) z.symm (by omega) (by omega)
  have z' : sumTo (St.T ⟨d, fun _ => 0⟩) N = 0 := z
  rw [z'] at h1
  split
  · rename_i s r e1 e2
    rw [e1] at h1
    rw [e2] at h2
    have hT : ∀ u, u < N → s.T u = r.T u := fun u hu => Int.le_antisymm (h1.2.2.1 _ h2.2.1 u hu) (h2.2.2.1 _ h1.2.1 u hu)
    exact ⟨bal_eq h1.1 h2.1 hT, hT⟩
  · trivial
  · rename_i e1 e2 e3
    cases e4 : sGo g q N picks maxF 0 ⟨d, fun _ => 0⟩ with
    | none =>
      cases e5 : stGo g q N (maxF + 1) 0 ⟨d, fun _ => 0⟩ with
      | none => exact e3 e4 e5
      | some r =>
        rw [e4] at h1; rw [e5] at h2
        have := h1 _ h2.2.1
        have := h2.2.2.2
        omega
    | some s =>
      cases e5 : stGo g q N (maxF + 1) 0 ⟨d, fun _ => 0⟩ with
      | none =>
        rw [e4] at h1; rw [e5] at h2
        have := h2 _ h1.2.1
        have := h1.2.2.2
        omega
      | some r => exact e2 s r e4 e5

end Go.Proofs.YtbjoblkigbphhaaGreat
