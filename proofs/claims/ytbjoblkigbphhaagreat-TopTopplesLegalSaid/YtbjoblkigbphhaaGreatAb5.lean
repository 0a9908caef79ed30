/-
  Plain laws: chips that fall one after the other.
-/
import Derived.Test.YtbjoblkigbphhaaGreatP35
import Derived.Test.YtbjoblkigbphhaaGreatAb2
import Derived.Test.YtbjoblkigbphhaaGreatR21e
namespace Go.Proofs.YtbjoblkigbphhaaGreat
set_option linter.unusedSimpArgs false
open Go.RowKit

theorem lapD_add (g : G) (N : Nat) (d d' T : Nat → Int) (u : Nat) : lapD g N d' T u = lapD g N d T u + (d' u - d u) := by unfold lapD; omega

theorem sumTo_mul (k : Int) (f : Nat → Int) : ∀ n, sumTo (fun u => k * f u) n = k * sumTo f n
  | 0 => by show (0 : Int) = k * 0; simp
  | n + 1 => by
    show sumTo (fun u => k * f u) n + k * f n = k * (sumTo f n + f n)
    rw [sumTo_mul k f n, Int.mul_add]
theorem fireK_sum {g : G} {N : Nat} (hN : N = g.n.toNat) (s : St) {v : Nat} (hv : v < N) (k : Int) : sumTo (fireK g v k s).L N = sumTo s.L N := by
  have h1 : sumTo (fireK g v k s).L N = sumTo (fun u => (if u = v then s.L u + -(k * valence g v) else s.L u) + k * rowsF g v u) N := sumTo_congr _ _ _ fun u _ => by
    show (if u = v then s.L u - k * valence g v else s.L u) + k * rowsF g v u = _
    split <;> omega
  rw [h1, sumTo_add, sumTo_at s.L v _ N hv, sumTo_mul, ← val_rows g v N hN]
  omega
theorem stGo_sum {g : G} (hg : Gok g) (q : Nat) (N : Nat) (hN : N = g.n.toNat) (hpos : ∀ v, v < N → v ≠ q → 0 < valence g v) : ∀ f t s r, (∀ u, u < N → u ≠ q → 0 ≤ s.L u) → stGo g q N f t s = some r → sumTo r.L N = sumTo s.L N ∧ ∀ u, u < N → u ≠ q → 0 ≤ r.L u
  | 0, t, s, r, h0, h => by
    unfold stGo at h
    split at h
    · obtain rfl := Option.some.inj h; exact ⟨rfl, h0⟩
    · cases h
  | f + 1, t, s, r, h0, h => by
    unfold stGo at h
    cases hw : waitN g q N s.L with
    | nil => rw [hw] at h; obtain rfl := Option.some.inj h; exact ⟨rfl, h0⟩
    | cons x l =>
      rw [hw] at h
      dsimp only at h
      obtain ⟨v, rfl, hv, hq, hle⟩ := wait_head hw
      rw [Int.toNat_natCast] at h
      obtain ⟨k1, k2⟩ := div_legal (hpos v hv (by omega)) hle
      generalize s.L v / valence g v = k at *
      by_cases hm : (maxF : Int) < t + k
      · rw [if_pos hm] at h; cases h
      · rw [if_neg hm] at h
        have h0' : ∀ u, u < N → u ≠ q → 0 ≤ (fireK g v k s).L u := fun u hu hq' => by
          have := h0 u hu hq'
          have hr := rowsF_bd hg v u
          have hkr : 0 ≤ k * rowsF g v u := Int.mul_nonneg (by omega) hr.1
          show 0 ≤ (if u = v then s.L u - k * valence g v else s.L u) + k * rowsF g v u
          split
          · rename_i e; subst e; omega
          · omega
        obtain ⟨a, b⟩ := stGo_sum hg q N hN hpos f (t + k) _ r h0' h
        exact ⟨by rw [a, fireK_sum hN s hv k], b⟩
theorem sumTo_ge2 (f : Nat → Int) (q : Nat) : ∀ n, (∀ k, k < n → k ≠ q → 0 ≤ f k) → q < n → f q ≤ sumTo f n := by
  intro n
  induction n with
  | zero => intro _ h; omega
  | succ n ih =>
    intro h hq
    show f q ≤ sumTo f n + f n
    by_cases e : q = n
    · subst e
      have h0 : ∀ m, m ≤ q → 0 ≤ sumTo f m := fun m => by
        induction m with
        | zero => intro _; exact Int.le_refl _
        | succ m ihm => intro hm; show 0 ≤ sumTo f m + f m; have := ihm (by omega); have := h m (by omega) (by omega); omega
      have := h0 q (Nat.le_refl _)
      omega
    · have := ih (fun k hk => h k (by omega)) (by omega)
      have := h n (by omega) (fun h => e h.symm)
      omega
theorem sumTo_up (f : Nat → Int) (c : Int) : ∀ n : Nat, (∀ k, k < n → f k ≤ c) → sumTo f n ≤ n * c
  | 0, _ => by show (0 : Int) ≤ _; simp
  | n + 1, h => by
    have ih := sumTo_up f c n fun k hk => h k (by omega)
    have := h n (by omega)
    show sumTo f n + f n ≤ _
    rw [Int.natCast_add, Int.add_mul]
    omega

theorem cfg_mk {g : G} {q : Int} {ds ds' : List Int} (hc : cfgErr g q ds = 0) (hl : (ds'.length : Int) = g.n) (hb : ∀ k ∈ ds', inB k = true) (hd : ∀ v : Nat, v < ds'.length → (v : Int) ≠ q → 0 ≤ ds'[v]?.getD 0) : cfgErr g q ds' = 0 := by
  have hr : rootedErr g q = 0 := Classical.byContradiction fun h => by
    unfold cfgErr at hc
    rw [if_pos h] at hc
    exact h hc
  have hn := (rooted_ok hr).1.n
  have hdE : dErr ds' g.n = 0 := by
    unfold dErr
    rw [if_neg (by omega), if_neg (by simpa using hl), if_pos (List.all_eq_true.2 hb)]
  unfold cfgErr
  rw [if_neg (by simpa using hr), if_neg (by simpa using hdE), if_neg]
  intro h
  obtain ⟨k, _, h2, h3⟩ := (anyFrom_iff _ _ _).1 h
  unfold debtAt at h3
  simp at h3
  have := hd k (by omega) h3.1
  omega


/-- Chips that fall. -/
def dropTo (d : Nat → Int) (l : List Nat) : Nat → Nat → Int
  | 0 => d
  | k + 1 => addT (dropTo d l k) (l[k]?.getD 0) 1
theorem dropTo_mono (d : Nat → Int) (l : List Nat) (u : Nat) : ∀ k m, k ≤ m → dropTo d l k u ≤ dropTo d l m u ∧ dropTo d l m u ≤ dropTo d l k u + (m - k : Nat)
  | k, 0, h => by obtain rfl : k = 0 := by omega
                  exact ⟨Int.le_refl _, by omega⟩
  | k, m + 1, h => by
    by_cases e : k = m + 1
    · subst e; exact ⟨Int.le_refl _, by omega⟩
    · have ih := dropTo_mono d l u k m (by omega)
      show _ ≤ addT (dropTo d l m) _ 1 u ∧ addT (dropTo d l m) _ 1 u ≤ _
      unfold addT
      split <;> omega
theorem dropTo_count (d : Nat → Int) (l : List Nat) (u : Nat) : ∀ k, k ≤ l.length → dropTo d l k u = d u + ((l.take k).count u : Int)
  | 0, _ => by simp [dropTo]
  | k + 1, h => by
    have ih := dropTo_count d l u k (by omega)
    rw [List.take_succ_eq_append_getElem (by omega), List.count_append]
    show addT (dropTo d l k) (l[k]?.getD 0) 1 u = _
    rw [List.getElem?_eq_getElem (by omega), Option.getD_some]
    unfold addT
    by_cases e : u = l[k]
    · rw [if_pos e, ih]; subst e; simp; omega
    · rw [if_neg e, ih]; simp [List.count_cons, Ne.symm e, e]
/-- One avalanche after the other: what is there, and the sum of the sizes. -/
def avTo (g : G) (q : Int) (N : Nat) (d : Nat → Int) (l : List Nat) : Nat → (Nat → Int) × Int
  | 0 => (d, 0)
  | k + 1 => match stGo g q N (maxF + 1) 0 ⟨addT (dOf (vecOf N (avTo g q N d l k).1)) (l[k]?.getD 0) 1, fun _ => 0⟩ with
    | some s => (s.L, (avTo g q N d l k).2 + sumTo s.T N)
    | none => avTo g q N d l k

theorem sumTo_zero : ∀ n, sumTo (fun _ => (0 : Int)) n = 0
  | 0 => rfl
  | n + 1 => by unfold sumTo; rw [sumTo_zero n]; rfl
theorem wait_nil {g : G} {q : Int} {N : Nat} {L : Nat → Int} (h : ∀ v, v < N → (v : Int) ≠ q → L v < valence g v) : waitN g q N L = [] := by
  cases hw : waitN g q N L with
  | nil => rfl
  | cons v l =>
    obtain ⟨u, _, hu, hq, hle⟩ := wait_head hw
    have := h u hu hq
    omega
theorem nil_sta {g : G} {q : Int} {N : Nat} {L : Nat → Int} (h : waitN g q N L = []) : ∀ v, v < N → (v : Int) ≠ q → L v < valence g v := fun v hv hq => by
  refine Int.not_le.1 fun hle => ?_
  have : (v : Int) ∈ waitN g q N L := by
    unfold waitN waitTo
    refine List.mem_map.2 ⟨v, List.mem_filter.2 ⟨List.mem_range.2 hv, ?_⟩, rfl⟩
    unfold isUnst
    simp [hq, hle]
  rw [h] at this
  cases this
theorem lap_sum {g : G} {N : Nat} {d L T : Nat → Int} (h : ∀ u, u < N → L u = lapD g N d T u) (τ : Nat → Int) (u : Nat) (hu : u < N) : lapD g N L τ u = lapD g N d (fun v => T v + τ v) u := by
  have h2 : sumTo (fun v => (T v + τ v) * rowsF g v u) N = sumTo (fun v => T v * rowsF g v u) N + sumTo (fun v => τ v * rowsF g v u) N := by
    rw [← sumTo_add]
    exact sumTo_congr _ _ _ fun v _ => Int.add_mul _ _ _
  have h1 := h u hu
  unfold lapD at *
  rw [h2, Int.add_mul, h1]
  omega
theorem sumTo_lt (f : Nat → Int) (c : Int) (hc : 0 ≤ c) (q : Nat) : ∀ n : Nat, (∀ k, k < n → k ≠ q → f k ≤ c) → (q < n → sumTo f n ≤ f q + n * c) ∧ (n ≤ q → sumTo f n ≤ n * c)
  | 0, _ => ⟨fun h => by omega, fun _ => by show (0 : Int) ≤ _; simp⟩
  | n + 1, h => by
    obtain ⟨h1, h2⟩ := sumTo_lt f c hc q n fun k hk => h k (by omega)
    have e : ((n + 1 : Nat) : Int) * c = n * c + c := by rw [Int.natCast_add, Int.add_mul]; simp
    refine ⟨fun hq => ?_, fun hq => ?_⟩
    · show sumTo f n + f n ≤ _
      rw [e]
      by_cases hn : q = n
      · subst hn; have := h2 (Nat.le_refl _); omega
      · have := h1 (by omega); have := h n (by omega) (fun h => hn h.symm); omega
    · show sumTo f n + f n ≤ _
      rw [e]
      have := h2 (by omega); have := h n (by omega) (by omega); omega

/-- What is so between two avalanches. -/
structure AvP (g : G) (q : Int) (N : Nat) (d D : Nat → Int) (l : List Nat) (k : Nat) (T : Nat → Int) : Prop where
  bal : ∀ u, u < N → (avTo g q N d l k).1 u = lapD g N (dropTo d l k) T u
  nn : ∀ u, u < N → 0 ≤ T u
  le : ∀ τ, Stz g q N D τ → ∀ u, u < N → T u ≤ τ u
  sz : (avTo g q N d l k).2 = sumTo T N
  pos : ∀ u : Nat, u < N → (u : Int) ≠ q → 0 ≤ (avTo g q N d l k).1 u
  sum : sumTo (avTo g q N d l k).1 N = sumTo d N + k
  sta : ∀ v : Nat, v < N → (v : Int) ≠ q → (avTo g q N d l k).1 v < valence g v

theorem av_start {g : G} {q : Int} {N : Nat} {d D : Nat → Int} {l : List Nat} (h1 : ∀ u : Nat, u < N → (u : Int) ≠ q → 0 ≤ d u) (h2 : ∀ v : Nat, v < N → (v : Int) ≠ q → d v < valence g v) : AvP g q N d D l 0 (fun _ => 0) := by
  have z : sumTo (fun _ => (0 : Int)) N = 0 := by
    have h1 : sumTo (fun _ => (0 : Int)) N = sumTo (fun w => if w = N then (0 : Int) else 0) N := sumTo_congr _ _ _ fun k _ => by simp
    rw [h1, sumTo_one]; simp
  exact ⟨fun u hu => (bal_start g N d).1 u hu, fun _ _ => Int.le_refl _, fun τ ht u hu => ht.2 u hu, z.symm, h1, by show sumTo d N = _; simp, h2⟩

theorem av_step {g : G} (hk : Gok g) {Q N : Nat} (hN : N = g.n.toNat) (hpos : ∀ v, v < N → v ≠ Q → 0 < valence g v) {d D : Nat → Int} {l : List Nat} (hD : ∀ u, u < N → D u = dropTo d l l.length u) {τ0 : Nat → Int} (hτ : Stz g Q N D τ0) (hτs : sumTo τ0 N ≤ maxF)
    {k : Nat} (hkl : k < l.length) (hlt : ∀ v ∈ l, v < N) {T : Nat → Int} (h : AvP g Q N d D l k T) :
    ∃ s T', stGo g Q N (maxF + 1) 0 ⟨addT (dOf (vecOf N (avTo g Q N d l k).1)) (l[k]?.getD 0) 1, fun _ => 0⟩ = some s ∧ avTo g Q N d l (k + 1) = (s.L, (avTo g Q N d l k).2 + sumTo s.T N) ∧ AvP g Q N d D l (k + 1) T' := by
  have hv : l[k]?.getD 0 < N := by rw [List.getElem?_eq_getElem hkl]; exact hlt _ (List.getElem_mem hkl)
  have e1 : dropTo d l (k + 1) = addT (dropTo d l k) (l[k]?.getD 0) 1 := rfl
  have hmono := fun u => (dropTo_mono d l u (k + 1) l.length (by omega)).1
  have hav : avTo g Q N d l (k + 1) = match stGo g Q N (maxF + 1) 0 ⟨addT (dOf (vecOf N (avTo g Q N d l k).1)) (l[k]?.getD 0) 1, fun _ => 0⟩ with
    | some s => (s.L, (avTo g Q N d l k).2 + sumTo s.T N)
    | none => avTo g Q N d l k := rfl
  obtain ⟨hb, hnn, hle, hsz, hp, hsm, hst⟩ := h
  generalize l[k]?.getD 0 = v at *
  generalize (avTo g Q N d l k).2 = sz at *
  generalize (avTo g Q N d l k).1 = L at *
  have hd' : ∀ u, u < N → addT (dOf (vecOf N L)) v 1 u = addT L v 1 u := fun u hu => by
    have : dOf (vecOf N L) u = L u := vecOf_get _ _ _ hu
    unfold addT
    rw [this]
  have hpos' : ∀ v : Nat, v < N → (v : Int) ≠ (Q : Int) → 0 < valence g v := fun v hv hne => hpos v hv (by omega)
  have z : sumTo (fun _ => (0 : Int)) N = 0 := by
    have h1 : sumTo (fun _ => (0 : Int)) N = sumTo (fun w => if w = N then (0 : Int) else 0) N := sumTo_congr _ _ _ fun k _ => by simp
    rw [h1, sumTo_one]; simp
  have l1 := stGo_least hk (Q : Int) N (addT (dOf (vecOf N L)) v 1) hpos' (maxF + 1) 0 ⟨addT (dOf (vecOf N L)) v 1, fun _ => 0⟩ (bal_start g _ _) (fun τ ht u hu => ht.2 u hu) z.symm (by omega) (by omega)
  have hsum0 : ∀ s, stGo g Q N (maxF + 1) 0 ⟨addT (dOf (vecOf N L)) v 1, fun _ => 0⟩ = some s → sumTo s.L N = sumTo (addT (dOf (vecOf N L)) v 1) N ∧ ∀ u, u < N → u ≠ Q → 0 ≤ s.L u := fun s hs =>
    stGo_sum hk Q N hN hpos _ _ _ s (fun u hu hne => by
      show 0 ≤ addT (dOf (vecOf N L)) v 1 u
      rw [hd' u hu]
      have := hp u hu (by omega)
      unfold addT
      split <;> omega) hs
  -- what stabilizes the whole stabilizes, less what has fired
  have hlap : ∀ (τ : Nat → Int) u, u < N → lapD g N (addT (dOf (vecOf N L)) v 1) τ u = lapD g N (dropTo d l (k + 1)) (fun w => T w + τ w) u := fun τ u hu => by
    have h1 := lapD_add g N L (addT (dOf (vecOf N L)) v 1) τ u
    have h2 := lap_sum hb τ u hu
    have h3 := lapD_add g N (dropTo d l k) (dropTo d l (k + 1)) (fun w => T w + τ w) u
    rw [h1, h2, h3, hd' u hu, e1]
    unfold addT
    split <;> omega
  have hrest : ∀ τ, Stz g Q N D τ → Stz g Q N (addT (dOf (vecOf N L)) v 1) (fun w => τ w - T w) := fun τ ht => by
    refine ⟨fun u hu hne => ?_, fun u hu => by have := hle τ ht u hu; dsimp only; omega⟩
    rw [hlap _ u hu]
    have e : (fun w => T w + (τ w - T w)) = τ := by funext w; omega
    rw [e]
    have h1 := ht.1 u hu hne
    have h2 := lapD_add g N (dropTo d l (k + 1)) D τ u
    have h3 := hmono u
    rw [← hD u hu] at h3
    omega
  cases es : stGo g Q N (maxF + 1) 0 ⟨addT (dOf (vecOf N L)) v 1, fun _ => 0⟩ with
  | none =>
    exfalso
    rw [es] at l1
    have h1 := l1 _ (hrest τ0 hτ)
    have h2 : sumTo (fun w => τ0 w - T w) N ≤ sumTo τ0 N := sumTo_le _ _ N fun u hu => by have := hnn u hu; omega
    omega
  | some s =>
    rw [es] at l1 hav
    obtain ⟨n1, n2, n3, _⟩ := l1
    obtain ⟨m1, m2⟩ := hsum0 s es
    refine ⟨s, fun w => T w + s.T w, rfl, hav, ?_⟩
    have ea : (avTo g Q N d l (k + 1)).1 = s.L := by rw [hav]
    have eb : (avTo g Q N d l (k + 1)).2 = sz + sumTo s.T N := by rw [hav]
    refine ⟨fun u hu => ?_, fun u hu => by have := hnn u hu; have := n1.2 u hu; (try dsimp only); omega, fun τ ht u hu => ?_, ?_, fun u hu hne => ?_, ?_, fun u hu hne => ?_⟩
    · rw [ea, n1.1 u hu]; exact hlap s.T u hu
    · have := n3 _ (hrest τ ht) u hu
      (try dsimp only at this ⊢)
      omega
    · rw [eb, hsz, sumTo_add]
    · rw [ea]; exact m2 u hu (by omega)
    · rw [ea, m1, show sumTo (addT (dOf (vecOf N L)) v 1) N = sumTo (dOf (vecOf N L)) N + 1 from sumTo_at _ v 1 N hv, sumTo_congr (dOf (vecOf N L)) L N fun u hu => vecOf_get _ _ _ hu, hsm]
      omega
    · rw [ea, n1.1 u hu]; exact n2.1 u hu hne

/-- All avalanches, one after the other. -/
theorem av_all {g : G} (hk : Gok g) {Q N : Nat} (hN : N = g.n.toNat) (hpos : ∀ v, v < N → v ≠ Q → 0 < valence g v) {d D : Nat → Int} {l : List Nat} (hD : ∀ u, u < N → D u = dropTo d l l.length u) {τ0 : Nat → Int} (hτ : Stz g Q N D τ0) (hτs : sumTo τ0 N ≤ maxF)
    (hlt : ∀ v ∈ l, v < N) (h1 : ∀ u : Nat, u < N → (u : Int) ≠ (Q : Int) → 0 ≤ d u) (h2 : ∀ v : Nat, v < N → (v : Int) ≠ (Q : Int) → d v < valence g v) : ∀ k, k ≤ l.length → ∃ T, AvP g Q N d D l k T
  | 0, _ => ⟨_, av_start h1 h2⟩
  | k + 1, h => by
    obtain ⟨T, hT⟩ := av_all hk hN hpos hD hτ hτs hlt h1 h2 k (by omega)
    obtain ⟨s, T', _, _, h'⟩ := av_step hk hN hpos hD hτ hτs (by omega) hlt hT
    exact ⟨T', h'⟩

/-- What the law wants of each step. -/
structure AvOk (g : G) (q : Int) (ds : List Int) (l : List Nat) (k : Nat) : Prop where
  cfg : cfgErr g q (vecOf g.n.toNat (avTo g q g.n.toNat (dOf ds) l k).1) = 0
  calm : waitN g q g.n.toNat (dOf (vecOf g.n.toNat (avTo g q g.n.toNat (dOf ds) l k).1)) = []
  lo : 0 ≤ (avTo g q g.n.toNat (dOf ds) l k).2
  hi : (avTo g q g.n.toNat (dOf ds) l k).2 ≤ 1048576
theorem avP_ok {g : G} {q : Int} {ds : List Int} (hc : cfgErr g q ds = 0) (hs : small17 ds = true) {l : List Nat} (hl : l.length ≤ 20) {D T τ0 : Nat → Int} (hτ : Stz g q g.n.toNat D τ0) (hτs : sumTo τ0 g.n.toNat ≤ maxF) {k : Nat} (hk : k ≤ l.length) (h : AvP g q g.n.toNat (dOf ds) D l k T) :
    AvOk g q ds l k ∧ ∀ u, u < g.n.toNat → -100000 ≤ (avTo g q g.n.toNat (dOf ds) l k).1 u ∧ (avTo g q g.n.toNat (dOf ds) l k).1 u ≤ 100000 := by
  obtain ⟨hg, hq0, hqn, hdl, hdb, hdn⟩ := cfg_ok hc
  have hn := hg.n
  obtain ⟨hb, hnn, hle, hsz, hp, hsm, hst⟩ := h
  have hT0 : 0 ≤ sumTo T g.n.toNat := by
    have := sumTo_le (fun _ => 0) T g.n.toNat hnn
    rw [sumTo_zero] at this
    exact this
  have hT1 := sumTo_le T τ0 g.n.toNat (hle τ0 hτ)
  have hA : cfgErr g q (vecOf g.n.toNat (avTo g q g.n.toNat (dOf ds) l k).1) = 0 ∧ waitN g q g.n.toNat (dOf (vecOf g.n.toNat (avTo g q g.n.toNat (dOf ds) l k).1)) = [] ∧ ∀ u, u < g.n.toNat → -100000 ≤ (avTo g q g.n.toNat (dOf ds) l k).1 u ∧ (avTo g q g.n.toNat (dOf ds) l k).1 u ≤ 100000 := by
    generalize (avTo g q g.n.toNat (dOf ds) l k).1 = L at *
    obtain ⟨Q, rfl⟩ := Int.eq_ofNat_of_zero_le hq0
    have hN12 : g.n.toNat ≤ 12 := by omega
    have hQN : Q < g.n.toNat := by omega
    have hd60 : ∀ u, u < g.n.toNat → -60 ≤ dOf ds u ∧ dOf ds u ≤ 60 := fun u hu => by
      unfold small17 at hs
      have hu' : u < ds.length := by omega
      have := List.all_eq_true.1 hs _ (List.getElem_mem hu')
      simp at this
      unfold dOf
      rw [List.getElem?_eq_getElem hu']
      exact this
    have u1 := sumTo_up (dOf ds) 60 g.n.toNat (fun u hu => (hd60 u hu).2)
    have u2 := sumTo_le (fun _ => -60) (dOf ds) g.n.toNat (fun u hu => (hd60 u hu).1)
    have u3 := sumTo_up (fun _ => 60) 60 g.n.toNat (fun u hu => Int.le_refl _)
    have u4 : sumTo (fun _ => -60) g.n.toNat = -sumTo (fun _ => 60) g.n.toNat := sumTo_neg (fun _ => 60) g.n.toNat
    have u5 := sumTo_ge2 L Q g.n.toNat (fun u hu hne => hp u hu (by omega)) hQN
    have u6 := (sumTo_lt L 600 (by omega) Q g.n.toNat (fun u hu hne => by have h1 := hst u hu (by omega); have h2 := (val_bd hg (u : Int)).2; omega)).1 hQN
    have u7 : (g.n.toNat : Int) * 60 ≤ 720 := by omega
    have u8 : (g.n.toNat : Int) * 600 ≤ 7200 := by omega
    have hbd : ∀ u, u < g.n.toNat → -100000 ≤ L u ∧ L u ≤ 100000 := fun u hu => by
      by_cases e : u = Q
      · subst e; omega
      · have h1 := hst u hu (by omega)
        have h2 := (val_bd hg (u : Int)).2
        have h3 := hp u hu (by omega)
        omega
    refine ⟨cfg_mk hc (by rw [vecOf_len]; omega) (fun x hx => ?_) (fun v hv hne => ?_), wait_nil fun v hv hne => ?_, hbd⟩
    · unfold vecOf at hx
      obtain ⟨u, hu, rfl⟩ := List.mem_map.1 hx
      have := hbd u (List.mem_range.1 hu)
      unfold inB
      simp
      omega
    · rw [vecOf_len] at hv
      rw [vecOf_get _ _ _ hv]
      exact hp v hv hne
    · rw [show dOf (vecOf g.n.toNat L) v = L v from vecOf_get _ _ _ hv]
      exact hst v hv hne
  exact ⟨⟨hA.1, hA.2.1, by omega, by have := maxF_eq; omega⟩, hA.2.2⟩

/-- Chips that fall one after the other, in whatever order. -/
theorem av_law {g : G} {q : Int} {ds : List Int} (hc : cfgErr g q ds = 0) (hs : small17 ds = true) (hw : waitN g q g.n.toNat (dOf ds) = []) {l : List Nat} (hl : l.length ≤ 20) (hlt : ∀ v ∈ l, v < g.n.toNat) {W : Nat → Int} (hW : ∀ u, u < g.n.toNat → W u = dropTo (dOf ds) l l.length u) {r : St}
    (hr : stGo g q g.n.toNat (maxF + 1) 0 ⟨dOf (vecOf g.n.toNat W), fun _ => 0⟩ = some r) :
    (∀ k, k ≤ l.length → AvOk g q ds l k) ∧
    (∀ k, k < l.length → ∃ s, stGo g q g.n.toNat (maxF + 1) 0 ⟨addT (dOf (vecOf g.n.toNat (avTo g q g.n.toNat (dOf ds) l k).1)) (l[k]?.getD 0) 1, fun _ => 0⟩ = some s ∧
      okS g.n.toNat 1048576 0 ⟨addT (dOf (vecOf g.n.toNat (avTo g q g.n.toNat (dOf ds) l k).1)) (l[k]?.getD 0) 1, fun _ => 0⟩ ∧ s.L q.toNat ≤ 1048576 ∧ avTo g q g.n.toNat (dOf ds) l (k + 1) = (s.L, (avTo g q g.n.toNat (dOf ds) l k).2 + sumTo s.T g.n.toNat)) ∧
    (avTo g q g.n.toNat (dOf ds) l l.length).2 = sumTo r.T g.n.toNat ∧ vecOf g.n.toNat (avTo g q g.n.toNat (dOf ds) l l.length).1 = vecOf g.n.toNat r.L := by
  obtain ⟨hg, hq0, hqn, hdl, hdb, hdn⟩ := cfg_ok hc
  have hn := hg.n
  have hcon := cfg_con hc
  obtain ⟨Q, rfl⟩ := Int.eq_ofNat_of_zero_le hq0
  have hpos : ∀ v, v < g.n.toNat → v ≠ Q → 0 < valence g v := fun v hv hne => val_pos hg hcon (q := Q) (by omega) (by omega) hne
  have hpos' : ∀ v : Nat, v < g.n.toNat → (v : Int) ≠ (Q : Int) → 0 < valence g v := fun v hv hne => hpos v hv (by omega)
  have z : sumTo (fun _ => (0 : Int)) g.n.toNat = 0 := sumTo_zero _
  have l2 := stGo_least hg (Q : Int) g.n.toNat (dOf (vecOf g.n.toNat W)) hpos' (maxF + 1) 0 ⟨dOf (vecOf g.n.toNat W), fun _ => 0⟩ (bal_start g _ _) (fun τ ht u hu => ht.2 u hu) z.symm (by omega) (by omega)
  rw [hr] at l2
  obtain ⟨m1, m2, m3, m4⟩ := l2
  have hD : ∀ u, u < g.n.toNat → dOf (vecOf g.n.toNat W) u = dropTo (dOf ds) l l.length u := fun u hu => by rw [← hW u hu]; exact vecOf_get _ _ _ hu
  have hall := av_all hg rfl hpos hD m2 m4 hlt (fun u hu hne => hdn u (by omega) hne) (nil_sta hw)
  refine ⟨fun k hk => ?_, fun k hk => ?_, ?_, ?_⟩
  · obtain ⟨T, hT⟩ := hall k hk
    exact (avP_ok hc hs hl m2 m4 hk hT).1
  · obtain ⟨T, hT⟩ := hall k (by omega)
    have hb := (avP_ok hc hs hl m2 m4 (by omega) hT).2
    obtain ⟨s, T', e1, e2, hT'⟩ := av_step hg rfl hpos hD m2 m4 hk hlt hT
    have hb' := (avP_ok hc hs hl m2 m4 (by omega) hT').2
    refine ⟨s, e1, ⟨fun u hu => ?_, fun u hu => by dsimp only; omega⟩, ?_, e2⟩
    · have h1 := hb u hu
      have h2 : dOf (vecOf g.n.toNat (avTo g Q g.n.toNat (dOf ds) l k).1) u = (avTo g Q g.n.toNat (dOf ds) l k).1 u := vecOf_get _ _ _ hu
      dsimp only
      unfold addT
      rw [h2]
      split <;> omega
    · have h1 := hb' Q (by omega)
      rw [e2] at h1
      rw [Int.toNat_natCast]
      dsimp only at h1
      omega
  all_goals
    obtain ⟨T, hT⟩ := hall l.length (Nat.le_refl _)
    have hst : Stz g Q g.n.toNat (dOf (vecOf g.n.toNat W)) T := ⟨fun v hv hne => by
      have h1 := hT.sta v hv hne
      rw [hT.bal v hv] at h1
      have h2 := lapD_add g g.n.toNat (dropTo (dOf ds) l l.length) (dOf (vecOf g.n.toNat W)) T v
      have h3 := hD v hv
      omega, hT.nn⟩
    have hTT : ∀ u, u < g.n.toNat → T u = r.T u := fun u hu => Int.le_antisymm (hT.le _ m2 u hu) (m3 _ hst u hu)
  · rw [hT.sz]; exact sumTo_congr _ _ _ hTT
  · refine vecOf_congr _ _ _ fun u hu => ?_
    rw [hT.bal u hu, m1.1 u hu]
    have h2 := lapD_add g g.n.toNat (dropTo (dOf ds) l l.length) (dOf (vecOf g.n.toNat W)) r.T u
    have h3 := hD u hu
    have h4 : lapD g g.n.toNat (dropTo (dOf ds) l l.length) T u = lapD g g.n.toNat (dropTo (dOf ds) l l.length) r.T u := by
      unfold lapD
      rw [hTT u hu, sumTo_congr (fun v => T v * rowsF g v u) (fun v => r.T v * rowsF g v u) _ fun v hv => by show T v * _ = r.T v * _; rw [hTT v hv]]
    omega

/-- The whole. -/
theorem whole_law {g : G} {q : Int} {ds : List Int} (hc : cfgErr g q ds = 0) (hs : small17 ds = true) {l : List Nat} (hl : l.length ≤ 20) {W : Nat → Int} (hW : ∀ u, u < g.n.toNat → W u = dropTo (dOf ds) l l.length u) :
    stabR g q (vecOf g.n.toNat W) = .inl 12 ∨ ∃ r, stabR g q (vecOf g.n.toNat W) = .inr r ∧ stGo g q g.n.toNat (maxF + 1) 0 ⟨dOf (vecOf g.n.toNat W), fun _ => 0⟩ = some r ∧ (∀ u, u < g.n.toNat → 0 ≤ r.T u) ∧ sumTo r.T g.n.toNat ≤ maxF := by
  obtain ⟨hg, hq0, hqn, hdl, hdb, hdn⟩ := cfg_ok hc
  have hn := hg.n
  have hcon := cfg_con hc
  obtain ⟨Q, rfl⟩ := Int.eq_ofNat_of_zero_le hq0
  have hQN : Q < g.n.toNat := by omega
  have hpos : ∀ v, v < g.n.toNat → v ≠ Q → 0 < valence g v := fun v hv hne => val_pos hg hcon (q := Q) (by omega) (by omega) hne
  have hpos' : ∀ v : Nat, v < g.n.toNat → (v : Int) ≠ (Q : Int) → 0 < valence g v := fun v hv hne => hpos v hv (by omega)
  have hd60 : ∀ u, u < g.n.toNat → -60 ≤ dOf ds u ∧ dOf ds u ≤ 60 := fun u hu => by
    unfold small17 at hs
    have hu' : u < ds.length := by omega
    have := List.all_eq_true.1 hs _ (List.getElem_mem hu')
    simp at this
    unfold dOf
    rw [List.getElem?_eq_getElem hu']
    exact this
  have hWb : ∀ u, u < g.n.toNat → -60 ≤ W u ∧ W u ≤ 80 ∧ ((u : Int) ≠ Q → 0 ≤ W u) := fun u hu => by
    have h1 := dropTo_mono (dOf ds) l u 0 l.length (Nat.zero_le _)
    have h2 := hd60 u hu
    have h3 : dropTo (dOf ds) l 0 u = dOf ds u := rfl
    rw [h3, ← hW u hu] at h1
    refine ⟨by omega, by omega, fun hne => ?_⟩
    have := hdn u (by omega) hne
    have h4 : dOf ds u = ds[u]?.getD 0 := rfl
    omega
  have hcw : cfgErr g Q (vecOf g.n.toNat W) = 0 := by
    refine cfg_mk hc (by rw [vecOf_len]; omega) (fun x hx => ?_) (fun v hv hne => ?_)
    · unfold vecOf at hx
      obtain ⟨u, hu, rfl⟩ := List.mem_map.1 hx
      have := hWb u (List.mem_range.1 hu)
      unfold inB
      simp
      omega
    · rw [vecOf_len] at hv
      rw [vecOf_get _ _ _ hv]
      exact (hWb v hv).2.2 hne
  have hst : stabR g Q (vecOf g.n.toNat W) = match stGo g Q g.n.toNat (maxF + 1) 0 ⟨dOf (vecOf g.n.toNat W), fun _ => 0⟩ with
      | none => .inl 12
      | some s => if 1048576 < s.L Q then .inl 11 else .inr s := by
    unfold stabR
    rw [if_neg (by simpa using hcw), Int.toNat_natCast]
    cases stGo g Q g.n.toNat (maxF + 1) 0 ⟨dOf (vecOf g.n.toNat W), fun _ => 0⟩ <;> rfl
  have z : sumTo (fun _ => (0 : Int)) g.n.toNat = 0 := sumTo_zero _
  have l2 := stGo_least hg (Q : Int) g.n.toNat (dOf (vecOf g.n.toNat W)) hpos' (maxF + 1) 0 ⟨dOf (vecOf g.n.toNat W), fun _ => 0⟩ (bal_start g _ _) (fun τ ht u hu => ht.2 u hu) z.symm (by omega) (by omega)
  rw [hst]
  cases es : stGo g Q g.n.toNat (maxF + 1) 0 ⟨dOf (vecOf g.n.toNat W), fun _ => 0⟩ with
  | none => exact .inl rfl
  | some r =>
    refine .inr ⟨r, ?_, rfl, ?_⟩
    · have hdv : ∀ u, u < g.n.toNat → dOf (vecOf g.n.toNat W) u = W u := fun u hu => vecOf_get _ _ _ hu
      have hS := stGo_sum hg Q g.n.toNat rfl hpos _ _ _ r (fun u hu hne => by show 0 ≤ dOf (vecOf g.n.toNat W) u; rw [hdv u hu]; exact (hWb u hu).2.2 (by omega)) es
      have h1 := sumTo_ge2 r.L Q g.n.toNat hS.2 hQN
      have h2 := sumTo_up (dOf (vecOf g.n.toNat W)) 80 g.n.toNat (fun u hu => by rw [hdv u hu]; exact (hWb u hu).2.1)
      have h4 : sumTo (St.L ⟨dOf (vecOf g.n.toNat W), fun _ => 0⟩) g.n.toNat = sumTo (dOf (vecOf g.n.toNat W)) g.n.toNat := rfl
      exact if_neg (by omega)
    · rw [es] at l2
      exact ⟨l2.1.2, l2.2.2.2⟩

end Go.Proofs.YtbjoblkigbphhaaGreat
