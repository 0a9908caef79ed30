/-
  Plain laws: when chips fall does not matter to what becomes in the end.
-/
import Derived.Test.YtlhbgainpeehoaaLawB
import Derived.Test.YtlhbgainpeehoaaAb2
namespace Go.Proofs.Ytlhbgainpeehoaa
open Go.RowKit

/-- The divisor with the chips that fall in the first k events. -/
def dAll (d : Nat → Int) (l : List (Int × Int)) : Nat → Nat → Int
  | 0 => d
  | k + 1 => fun u => if (l[k]?.getD (0, 0)).1 = 1 ∧ u = (l[k]?.getD (0, 0)).2.toNat then dAll d l k u + 1 else dAll d l k u
theorem dAll_mono (d : Nat → Int) (l : List (Int × Int)) (u : Nat) : ∀ k m, k ≤ m → dAll d l k u ≤ dAll d l m u ∧ dAll d l m u ≤ dAll d l k u + (m - k : Nat)
  | k, 0, h => by obtain rfl : k = 0 := by omega
                  exact ⟨Int.le_refl _, by omega⟩
  | k, m + 1, h => by
    by_cases e : k = m + 1
    · subst e; exact ⟨Int.le_refl _, by omega⟩
    · have ih := dAll_mono d l u k m (by omega)
      have e2 : dAll d l (m + 1) u = if (l[m]?.getD (0, 0)).1 = 1 ∧ u = (l[m]?.getD (0, 0)).2.toNat then dAll d l m u + 1 else dAll d l m u := rfl
      rw [e2]
      by_cases hh : (l[m]?.getD (0, 0)).1 = 1 ∧ u = (l[m]?.getD (0, 0)).2.toNat
      · rw [if_pos hh]; omega
      · rw [if_neg hh]; omega
theorem lapD_add (g : G) (N : Nat) (d d' T : Nat → Int) (u : Nat) : lapD g N d' T u = lapD g N d T u + (d' u - d u) := by unfold lapD; omega

theorem ev_bal {g : G} (hg : Gok g) (q : Nat) (N : Nat) (hN : N = g.n.toNat) (d : Nat → Int) (hd : ∀ u, u < N → u ≠ q → 0 ≤ d u) (l : List (Int × Int)) (he : ∀ k, k < l.length → ((l[k]?.getD (0, 0)).1 = 0 ∨ (l[k]?.getD (0, 0)).1 = 1) ∧ 0 ≤ (l[k]?.getD (0, 0)).2 ∧ ((l[k]?.getD (0, 0)).1 = 1 → (l[k]?.getD (0, 0)).2 < g.n)) :
    ∀ k, k ≤ l.length → Bal g N (dAll d l k) (evTo g q N l ⟨d, fun _ => 0⟩ k).1 ∧ (∀ u, u < N → u ≠ q → 0 ≤ (evTo g q N l ⟨d, fun _ => 0⟩ k).1.L u) ∧
      (∀ τ, Stz g q N (dAll d l l.length) τ → ∀ u, u < N → (evTo g q N l ⟨d, fun _ => 0⟩ k).1.T u ≤ τ u)
  | 0, _ => ⟨bal_start g N d, hd, fun τ ht u hu => ht.2 u hu⟩
  | k + 1, hk => by
    obtain ⟨h1, h2, h3⟩ := ev_bal hg q N hN d hd l he k (by omega)
    obtain ⟨e1, e2, e3⟩ := he k (by omega)
    have hdl : ∀ u, dAll d l (k + 1) u = if (l[k]?.getD (0, 0)).1 = 1 ∧ u = (l[k]?.getD (0, 0)).2.toNat then dAll d l k u + 1 else dAll d l k u := fun u => rfl
    have hm := fun u => (dAll_mono d l u k l.length (by omega)).1
    show Bal g N (dAll d l (k + 1)) (evStp g q N (l[k]?.getD (0, 0)) (evTo g q N l ⟨d, fun _ => 0⟩ k).1).1 ∧ (∀ u, u < N → u ≠ q → 0 ≤ (evStp g q N (l[k]?.getD (0, 0)) (evTo g q N l ⟨d, fun _ => 0⟩ k).1).1.L u) ∧
      (∀ τ, Stz g q N (dAll d l l.length) τ → ∀ u, u < N → (evStp g q N (l[k]?.getD (0, 0)) (evTo g q N l ⟨d, fun _ => 0⟩ k).1).1.T u ≤ τ u)
    generalize (evTo g q N l ⟨d, fun _ => 0⟩ k).1 = s at *
    generalize l[k]?.getD (0, 0) = x at *
    obtain ⟨kd, vl⟩ := x
    dsimp only at e1 e2 e3 hdl
    unfold evStp
    dsimp only
    by_cases hkd : kd = 1
    · rw [if_pos hkd]
      obtain ⟨V, rfl⟩ := Int.eq_ofNat_of_zero_le e2
      rw [Int.toNat_natCast] at *
      refine ⟨⟨fun u hu => ?_, h1.2⟩, fun u hu hq => ?_, h3⟩
      · dsimp only
        have a1 := lapD_add g N (dAll d l k) (dAll d l (k + 1)) s.T u
        have a2 := h1.1 u hu
        rw [a1, ← a2, hdl u]
        by_cases e : u = V
        · subst e; rw [if_pos rfl, if_pos ⟨hkd, rfl⟩]; omega
        · rw [if_neg e, if_neg (fun h => e h.2)]; omega
      · dsimp only
        have := h2 u hu hq
        split
        · rename_i e; subst e; omega
        · exact this
    · rw [if_neg hkd]
      have hdd : ∀ u, dAll d l (k + 1) u = dAll d l k u := fun u => by rw [hdl u, if_neg (fun h => hkd h.1)]
      have hb' : Bal g N (dAll d l (k + 1)) s := ⟨fun u hu => by rw [lapD_add g N (dAll d l k) (dAll d l (k + 1)) s.T u, hdd u, h1.1 u hu]; omega, h1.2⟩
      by_cases hw : waitN g q N s.L = []
      · rw [if_pos hw]
        exact ⟨hb', h2, h3⟩
      · rw [if_neg hw]
        obtain ⟨c1, c2, c3, c4⟩ := chosen_bd g q N s.L vl e2 hw
        generalize chosen (waitN g q N s.L) vl = c at *
        obtain ⟨v, rfl⟩ := Int.eq_ofNat_of_zero_le c1
        dsimp only
        rw [Int.toNat_natCast] at *
        have hv : v < N := by omega
        rw [fireS_K]
        refine ⟨bal_fire hb' hv (by omega), fun u hu hq => ?_, fun τ ht u hu => ?_⟩
        · have := h2 u hu hq
          have hr := rowsF_bd hg v u
          show 0 ≤ (if u = v then s.L u - 1 * valence g v else s.L u) + 1 * rowsF g v u
          split
          · rename_i e; subst e; omega
          · omega
        · have hLv : s.L v ≤ lapD g N (dAll d l l.length) s.T v := by
            rw [lapD_add g N (dAll d l k) (dAll d l l.length) s.T v, ← h1.1 v hv]
            have := hm v
            omega
          have h5 := least_one hg (k := 1) hLv (by omega) (h3 τ ht) (ht.1 v hv c3)
          have := h3 τ ht u hu
          show addT s.T v 1 u ≤ τ u
          unfold addT
          split
          · rename_i e; subst e; exact h5
          · exact this

theorem sumTo_mul (k : Int) (f : Nat → Int) : ∀ n, sumTo (fun u => k * f u) n = k * sumTo f n
  | 0 => by show (0 : Int) = k * 0; simp
  | n + 1 => by
    show sumTo (fun u => k * f u) n + k * f n = k * (sumTo f n + f n)
    rw [sumTo_mul k f n, Int.mul_add]
theorem fireK_sum {g : G} {N : Nat} (hN : N = g.n.toNat) (s : St) {v : Nat} (hv : v < N) (k : Int) : sumTo (fireK g v k s).L N = sumTo s.L N := by
  have h1 : sumTo (fireK g v k s).L N = sumTo (fun u => (if u = v then s.L u + -(k * valence g v) else s.L u) + k * rowsF g v u) N := sumTo_congr _ _ _ fun u _ => by
    show (if u = v then s.L u - k * valence g v else s.L u) + k * rowsF g v u = _
    split <;> omega
  rw [h1, sumTo_add, sumTo_at s.L v _ N hv, sumTo_mul, ← val_rows g v N hN]
  omega
theorem stGo_sum {g : G} (hg : Gok g) (q : Nat) (N : Nat) (hN : N = g.n.toNat) (hpos : ∀ v, v < N → v ≠ q → 0 < valence g v) : ∀ f t s r, (∀ u, u < N → u ≠ q → 0 ≤ s.L u) → stGo g q N f t s = some r → sumTo r.L N = sumTo s.L N ∧ ∀ u, u < N → u ≠ q → 0 ≤ r.L u
  | 0, t, s, r, h0, h => by
    unfold stGo at h
    split at h
    · obtain rfl := Option.some.inj h; exact ⟨rfl, h0⟩
    · cases h
  | f + 1, t, s, r, h0, h => by
    unfold stGo at h
    cases hw : waitN g q N s.L with
    | nil => rw [hw] at h; obtain rfl := Option.some.inj h; exact ⟨rfl, h0⟩
    | cons x l =>
      rw [hw] at h
      dsimp only at h
      obtain ⟨v, rfl, hv, hq, hle⟩ := wait_head hw
      rw [Int.toNat_natCast] at h
      obtain ⟨k1, k2⟩ := div_legal (hpos v hv (by omega)) hle
      generalize s.L v / valence g v = k at *
      by_cases hm : (maxF : Int) < t + k
      · rw [if_pos hm] at h; cases h
      · rw [if_neg hm] at h
        have h0' : ∀ u, u < N → u ≠ q → 0 ≤ (fireK g v k s).L u := fun u hu hq' => by
          have := h0 u hu hq'
          have hr := rowsF_bd hg v u
          have hkr : 0 ≤ k * rowsF g v u := Int.mul_nonneg (by omega) hr.1
          show 0 ≤ (if u = v then s.L u - k * valence g v else s.L u) + k * rowsF g v u
          split
          · rename_i e; subst e; omega
          · omega
        obtain ⟨a, b⟩ := stGo_sum hg q N hN hpos f (t + k) _ r h0' h
        exact ⟨by rw [a, fireK_sum hN s hv k], b⟩
theorem sumTo_ge2 (f : Nat → Int) (q : Nat) : ∀ n, (∀ k, k < n → k ≠ q → 0 ≤ f k) → q < n → f q ≤ sumTo f n := by
  intro n
  induction n with
  | zero => intro _ h; omega
  | succ n ih =>
    intro h hq
    show f q ≤ sumTo f n + f n
    by_cases e : q = n
    · subst e
      have h0 : ∀ m, m ≤ q → 0 ≤ sumTo f m := fun m => by
        induction m with
        | zero => intro _; exact Int.le_refl _
        | succ m ihm => intro hm; show 0 ≤ sumTo f m + f m; have := ihm (by omega); have := h m (by omega) (by omega); omega
      have := h0 q (Nat.le_refl _)
      omega
    · have := ih (fun k hk => h k (by omega)) (by omega)
      have := h n (by omega) (fun h => e h.symm)
      omega
theorem sumTo_up (f : Nat → Int) (c : Int) : ∀ n : Nat, (∀ k, k < n → f k ≤ c) → sumTo f n ≤ n * c
  | 0, _ => by show (0 : Int) ≤ _; simp
  | n + 1, h => by
    have ih := sumTo_up f c n fun k hk => h k (by omega)
    have := h n (by omega)
    show sumTo f n + f n ≤ _
    rw [Int.natCast_add, Int.add_mul]
    omega

theorem cfg_mk {g : G} {q : Int} {ds ds' : List Int} (hc : cfgErr g q ds = 0) (hl : (ds'.length : Int) = g.n) (hb : ∀ k ∈ ds', inB k = true) (hd : ∀ v : Nat, v < ds'.length → (v : Int) ≠ q → 0 ≤ ds'[v]?.getD 0) : cfgErr g q ds' = 0 := by
  have hr : rootedErr g q = 0 := Classical.byContradiction fun h => by
    unfold cfgErr at hc
    rw [if_pos h] at hc
    exact h hc
  have hn := (rooted_ok hr).1.n
  have hdE : dErr ds' g.n = 0 := by
    unfold dErr
    rw [if_neg (by omega), if_neg (by simpa using hl), if_pos (List.all_eq_true.2 hb)]
  unfold cfgErr
  rw [if_neg (by simpa using hr), if_neg (by simpa using hdE), if_neg]
  intro h
  obtain ⟨k, _, h2, h3⟩ := (anyFrom_iff _ _ _).1 h
  unfold debtAt at h3
  simp at h3
  have := hd k (by omega) h3.1
  omega

/-- When the chips fall does not matter. -/
theorem drops_law {g : G} {q : Int} {ds : List Int} {l : List (Int × Int)} (hc : cfgErr g q ds = 0) (he : evsErr g l = 0) (hl : l.length ≤ 60) (hs : small17 ds = true) :
    ∃ s : St, runR g q ds l = .inr s ∧ cfgErr g q (vecOf g.n.toNat s.L) = 0 ∧
      (triK (stabR g q (vecOf g.n.toNat s.L)) ≠ 0 ∨ triK (stabR g q (vecOf g.n.toNat (dAll (dOf ds) l l.length))) ≠ 0 → triK (stabR g q (vecOf g.n.toNat (dAll (dOf ds) l l.length))) = 12) ∧
      (triK (stabR g q (vecOf g.n.toNat s.L)) = 0 → triK (stabR g q (vecOf g.n.toNat (dAll (dOf ds) l l.length))) = 0 →
        ∃ r1 r2, stabR g q (vecOf g.n.toNat s.L) = .inr r1 ∧ stabR g q (vecOf g.n.toNat (dAll (dOf ds) l l.length)) = .inr r2 ∧ (∀ u, u < g.n.toNat → s.T u + r1.T u = r2.T u) ∧ (∀ u, u < g.n.toNat → r1.L u = r2.L u) ∧ ∀ u, u < g.n.toNat → 0 ≤ r2.T u ∧ r2.T u ≤ 1048576) := by
  obtain ⟨hk, hq0, hqn, hdl, hdb, hdn⟩ := cfg_ok hc
  have hn := hk.n
  obtain ⟨Q, rfl⟩ := Int.eq_ofNat_of_zero_le hq0
  obtain ⟨N, hN⟩ : ∃ N, N = g.n.toNat := ⟨_, rfl⟩
  rw [← hN]
  have hQN : Q < N := by omega
  obtain ⟨_, hev⟩ := evs_ok he
  have hpos : ∀ v, v < N → v ≠ Q → 0 < valence g v := fun v hv hne => val_pos hk (cfg_con hc) (q := Q) (by omega) (by omega) hne
  have hpos' : ∀ v : Nat, v < N → (v : Int) ≠ (Q : Int) → 0 < valence g v := fun v hv hne => hpos v hv (by omega)
  have hd60 : ∀ u, u < N → -60 ≤ dOf ds u ∧ dOf ds u ≤ 60 := fun u hu => by
    unfold small17 at hs
    have hu' : u < ds.length := by omega
    have := List.all_eq_true.1 hs _ (List.getElem_mem hu')
    simp at this
    unfold dOf
    rw [List.getElem?_eq_getElem hu']
    exact this
  have hdq : ∀ u, u < N → u ≠ Q → 0 ≤ dOf ds u := fun u hu hne => hdn u (by omega) (by omega)
  obtain ⟨b1, b2, b3⟩ := ev_bal hk Q N hN (dOf ds) hdq l hev l.length (Nat.le_refl _)
  have ok0 : okS N 60 0 ⟨dOf ds, fun _ => 0⟩ := ⟨fun u hu => by have := hd60 u hu; dsimp only; omega, fun u hu => by dsimp only; omega⟩
  have hbd := evTo_ok hk Q N l ⟨dOf ds, fun _ => 0⟩ 60 ok0 l.length
  have hrun : runR g Q ds l = if bddB N (evTo g Q N l ⟨dOf ds, fun _ => 0⟩ l.length).1.L then .inr (evTo g Q N l ⟨dOf ds, fun _ => 0⟩ l.length).1 else .inl 11 := by
    unfold runR
    rw [if_neg (by unfold runErr; simp [hc, he]), ← hN]
    rfl
  generalize (evTo g Q N l ⟨dOf ds, fun _ => 0⟩ l.length).1 = s at *
  have hsL : ∀ u, u < N → -42060 ≤ s.L u ∧ s.L u ≤ 42060 := fun u hu => by have := hbd.1 u hu; omega
  have hA : ∀ u, u < N → -60 ≤ dAll (dOf ds) l l.length u ∧ dAll (dOf ds) l l.length u ≤ 120 := fun u hu => by
    have h1 := dAll_mono (dOf ds) l u 0 l.length (Nat.zero_le _)
    have h2 := hd60 u hu
    show _ ∧ _
    have h3 : dAll (dOf ds) l 0 u = dOf ds u := rfl
    rw [h3] at h1
    omega
  have hAq : ∀ u, u < N → u ≠ Q → 0 ≤ dAll (dOf ds) l l.length u := fun u hu hne => by
    have h1 := dAll_mono (dOf ds) l u 0 l.length (Nat.zero_le _)
    have h3 : dAll (dOf ds) l 0 u = dOf ds u := rfl
    have := hdq u hu hne
    omega
  generalize dAll (dOf ds) l l.length = D at *
  have hbb : bddB N s.L = true := by
    unfold bddB
    rw [List.all_eq_true]
    intro x hx
    unfold vecOf at hx
    obtain ⟨u, hu, rfl⟩ := List.mem_map.1 hx
    have := hsL u (List.mem_range.1 hu)
    unfold inB
    simp
    omega
  rw [hbb, if_pos rfl] at hrun
  have hcs : ∀ F : Nat → Int, (∀ u, u < N → -1048576 ≤ F u ∧ F u ≤ 1048576) → (∀ u, u < N → u ≠ Q → 0 ≤ F u) → cfgErr g Q (vecOf N F) = 0 := fun F hF hF2 => by
    refine cfg_mk hc (by rw [vecOf_len]; omega) (fun x hx => ?_) (fun v hv hne => ?_)
    · unfold vecOf at hx
      obtain ⟨u, hu, rfl⟩ := List.mem_map.1 hx
      have := hF u (List.mem_range.1 hu)
      unfold inB
      simp
      omega
    · rw [vecOf_len] at hv
      rw [vecOf_get _ _ _ hv]
      exact hF2 v hv (by omega)
  have hc1 := hcs s.L (fun u hu => by have := hsL u hu; omega) b2
  have hc2 := hcs D (fun u hu => by have := hA u hu; omega) hAq
  have hst : ∀ F : Nat → Int, cfgErr g Q (vecOf N F) = 0 → stabR g Q (vecOf N F) = match stGo g Q N (maxF + 1) 0 ⟨dOf (vecOf N F), fun _ => 0⟩ with
      | none => .inl 12
      | some s => if 1048576 < s.L Q then .inl 11 else .inr s := fun F h => by
    unfold stabR
    rw [if_neg (by simpa using h), ← hN, Int.toNat_natCast]
    cases stGo g Q N (maxF + 1) 0 ⟨dOf (vecOf N F), fun _ => 0⟩ <;> rfl
  have hdv : ∀ (F : Nat → Int) u, u < N → dOf (vecOf N F) u = F u := fun F u hu => vecOf_get _ _ _ hu
  have z : sumTo (fun _ => (0 : Int)) N = 0 := by
    have h1 : sumTo (fun _ => (0 : Int)) N = sumTo (fun w => if w = N then (0 : Int) else 0) N := sumTo_congr _ _ _ fun k _ => by simp
    rw [h1, sumTo_one]; simp
  have hle : ∀ F : Nat → Int, _ := fun F => stGo_least hk (Q : Int) N (dOf (vecOf N F)) hpos' (maxF + 1) 0 ⟨dOf (vecOf N F), fun _ => 0⟩ (bal_start g _ _) (fun τ ht u hu => ht.2 u hu) z.symm (by omega) (by omega)
  have hlap : ∀ (F : Nat → Int) T u, u < N → lapD g N (dOf (vecOf N F)) T u = lapD g N F T u := fun F T u hu => by rw [lapD_add g N F (dOf (vecOf N F)) T u, hdv F u hu]; omega
  -- what is left when s.T has fired
  have hsum : ∀ τ u, u < N → lapD g N D (fun v => s.T v + τ v) u = lapD g N s.L τ u := fun τ u hu => by
    have h1 := b1.1 u hu
    have h2 : sumTo (fun v => (s.T v + τ v) * rowsF g v u) N = sumTo (fun v => s.T v * rowsF g v u) N + sumTo (fun v => τ v * rowsF g v u) N := by
      rw [← sumTo_add]
      exact sumTo_congr _ _ _ fun v _ => Int.add_mul _ _ _
    unfold lapD at *
    rw [h2, Int.add_mul, h1]
    omega
  have l1 := hle s.L
  have l2 := hle D
  refine ⟨s, hrun, hc1, ?_⟩
  rw [hst s.L hc1, hst D hc2]
  refine ⟨?_, ?_⟩
  all_goals
    cases e2 : stGo g Q N (maxF + 1) 0 ⟨dOf (vecOf N D), fun _ => 0⟩ with
    | none => first | exact fun _ => rfl | exact fun _ h => absurd h (by show ¬ (12 : Int) = 0; omega)
    | some r2 =>
      rw [e2] at l2
      obtain ⟨m1, m2, m3, m4⟩ := l2
      have hS2 := stGo_sum hk Q N hN hpos _ _ _ r2 (fun u hu hne => by rw [show (⟨dOf (vecOf N D), fun _ => 0⟩ : St).L u = dOf (vecOf N D) u from rfl, hdv D u hu]; exact hAq u hu hne) e2
      have hq2 : r2.L Q ≤ 1440 := by
        have h1 := sumTo_ge2 r2.L Q N hS2.2 hQN
        have h2 := sumTo_up (dOf (vecOf N D)) 120 N (fun u hu => by rw [hdv D u hu]; exact (hA u hu).2)
        rw [hS2.1] at h1
        have h3 : (N : Int) ≤ 12 := by omega
        have h4 : sumTo (St.L ⟨dOf (vecOf N D), fun _ => 0⟩) N = sumTo (dOf (vecOf N D)) N := rfl
        omega
      have hst2 : Stz g Q N D r2.T := ⟨fun v hv hne => by rw [← hlap D _ v hv]; exact m2.1 v hv hne, m2.2⟩
      have hge := b3 r2.T hst2
      have hstz : Stz g Q N (dOf (vecOf N s.L)) (fun v => r2.T v - s.T v) := by
        refine ⟨fun v hv hne => ?_, fun u hu => by have := hge u hu; dsimp only; omega⟩
        rw [hlap s.L _ v hv, ← hsum _ v hv]
        have e : (fun w => s.T w + (r2.T w - s.T w)) = r2.T := by funext w; omega
        rw [e]
        exact hst2.1 v hv hne
      cases e1 : stGo g Q N (maxF + 1) 0 ⟨dOf (vecOf N s.L), fun _ => 0⟩ with
      | none =>
        exfalso
        rw [e1] at l1
        have h1 := l1 _ hstz
        have h2 : sumTo (fun v => r2.T v - s.T v) N ≤ sumTo r2.T N := sumTo_le _ _ N fun u hu => by have := b1.2 u hu; omega
        omega
      | some r1 =>
        rw [e1] at l1
        obtain ⟨n1, n2, n3, _⟩ := l1
        have hst1 : Stz g Q N (dOf (vecOf N D)) (fun v => s.T v + r1.T v) := by
          refine ⟨fun v hv hne => ?_, fun u hu => by have := b1.2 u hu; have := n2.2 u hu; dsimp only; omega⟩
          rw [hlap D _ v hv, hsum _ v hv, ← hlap s.L _ v hv]
          exact n2.1 v hv hne
        have hT : ∀ u, u < N → s.T u + r1.T u = r2.T u := fun u hu => by
          have h1 := m3 _ hst1 u hu
          have h2 := n3 _ hstz u hu
          (try dsimp only at h1 h2)
          omega
        have hL : ∀ u, u < N → r1.L u = r2.L u := fun u hu => by
          rw [n1.1 u hu, m1.1 u hu, hlap s.L _ u hu, hlap D _ u hu, ← hsum _ u hu]
          unfold lapD
          (try dsimp only)
          rw [hT u hu, sumTo_congr (fun v => (s.T v + r1.T v) * rowsF g v u) (fun v => r2.T v * rowsF g v u) N fun v hv => by show (s.T v + r1.T v) * _ = r2.T v * _; rw [hT v hv]]
        dsimp only
        rw [hL Q hQN, if_neg (by omega), if_neg (by omega)]
        first
          | (intro h; rcases h with h | h <;> exact absurd rfl h)
          | exact fun _ _ => ⟨r1, r2, rfl, rfl, hT, hL, fun u hu => ⟨m2.2 u hu, by
              have h1 := sumTo_ge2 r2.T u N (fun k hk _ => m2.2 k hk) hu
              have := maxF_eq
              omega⟩⟩

end Go.Proofs.Ytlhbgainpeehoaa
