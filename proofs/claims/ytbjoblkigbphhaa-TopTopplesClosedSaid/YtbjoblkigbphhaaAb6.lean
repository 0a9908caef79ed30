/-
  Plain laws: the closed game. If it ends, every vertex has fired at least as often as with any sink.
-/
import Derived.Test.YtbjoblkigbphhaaAb4
import Derived.Test.YtbjoblkigbphhaaAb5
namespace Go.Proofs.Ytbjoblkigbphhaa

/-- The number of the error of a divisor of a closed game. -/
def cgErr (g : G) (ds : List Int) : Int :=
  if checkErr g ≠ 0 then checkErr g else if parts g ≠ 1 then 13 else if dErr ds g.n ≠ 0 then dErr ds g.n else if ds.all (fun k => decide (0 ≤ k)) then (if 1048576 < sumTo (dOf ds) ds.length then 11 else 0) else 2
/-- A divisor with which a closed game can be played. -/
structure CgOk (g : G) (ds : List Int) : Prop where
  gok : Gok g
  con : parts g = 1
  len : (ds.length : Int) = g.n
  lo : ∀ u, u < ds.length → 0 ≤ dOf ds u
  hi : sumTo (dOf ds) ds.length ≤ 1048576
theorem sum_ge1 (f : Nat → Int) : ∀ n, (∀ k, k < n → 0 ≤ f k) → (∀ k, k < n → f k ≤ sumTo f n) ∧ 0 ≤ sumTo f n
  | 0, _ => ⟨fun k hk => by omega, Int.le_refl _⟩
  | n + 1, h => by
    have ih := sum_ge1 f n (fun k hk => h k (by omega))
    have hn := h n (by omega)
    have e : sumTo f (n + 1) = sumTo f n + f n := rfl
    refine ⟨fun k hk => ?_, by omega⟩
    by_cases hkn : k = n
    · subst hkn; omega
    · have := ih.1 k (by omega); omega
theorem CgOk.each {g : G} {ds : List Int} (h : CgOk g ds) (u : Nat) (hu : u < ds.length) : 0 ≤ dOf ds u ∧ dOf ds u ≤ 1048576 :=
  ⟨h.lo u hu, Int.le_trans ((sum_ge1 _ _ h.lo).1 u hu) h.hi⟩
theorem cg_ok {g : G} {ds : List Int} (h : cgErr g ds = 0) : CgOk g ds := by
  unfold cgErr at h
  by_cases h1 : checkErr g = 0
  · rw [if_neg (by simpa using h1)] at h
    by_cases h2 : parts g = 1
    · rw [if_neg (by simpa using h2)] at h
      by_cases h3 : dErr ds g.n = 0
      · rw [if_neg (by simpa using h3)] at h
        split at h
        · rename_i h4
          by_cases h5 : 1048576 < sumTo (dOf ds) ds.length
          · rw [if_pos h5] at h; simp at h
          · refine ⟨h1, h2, (dErr_ok h3).2.2.1, fun u hu => ?_, by omega⟩
            have := List.all_eq_true.1 h4 _ (List.getElem_mem hu)
            unfold dOf
            rw [List.getElem?_eq_getElem hu]
            simpa using this
        · simp at h
      · rw [if_pos (by simpa using h3)] at h; exact absurd h h3
    · rw [if_pos (by simpa using h2)] at h; simp at h
  · rw [if_pos (by simpa using h1)] at h; exact absurd h h1
theorem CgOk.all {g : G} {ds : List Int} (h : CgOk g ds) : ∀ k ∈ ds, 0 ≤ k ∧ k ≤ 1048576 := fun k hk => by
  obtain ⟨u, hu, rfl⟩ := List.mem_iff_getElem.1 hk
  have := h.each u hu
  unfold dOf at this
  rw [List.getElem?_eq_getElem hu] at this
  exact this
theorem CgOk.dErr {g : G} {ds : List Int} (h : CgOk g ds) : dErr ds g.n = 0 := by
  have hn := h.gok.n
  have hl := h.len
  unfold Go.Proofs.Ytbjoblkigbphhaa.dErr
  rw [if_neg (by omega), if_neg (by omega), if_pos]
  refine List.all_eq_true.2 fun k hk => ?_
  have := h.all k hk
  unfold inB
  simp
  omega
theorem CgOk.err {g : G} {ds : List Int} (h : CgOk g ds) : cgErr g ds = 0 := by
  have h4 : ds.all (fun k => decide (0 ≤ k)) = true := List.all_eq_true.2 fun k hk => by simpa using (h.all k hk).1
  have := h.hi
  unfold cgErr
  rw [if_neg (by have : checkErr g = 0 := h.gok; simpa using this), if_neg (by simpa using h.con), if_neg (by simpa using h.dErr), if_pos h4, if_neg (by omega)]
theorem CgOk.cfg {g : G} {ds : List Int} (h : CgOk g ds) {q : Int} (hq : 0 ≤ q ∧ q < g.n) : cfgErr g q ds = 0 := by
  unfold cfgErr
  have hr : rootedErr g q = 0 := by
    unfold rootedErr
    have : checkErr g = 0 := h.gok
    rw [if_neg (by simpa using this), if_neg (by simpa using h.con), if_pos (by unfold vtx; simp; omega)]
  rw [if_neg (by simpa using hr), if_neg (by simpa using h.dErr), if_neg]
  intro hh
  obtain ⟨k, _, h2, h3⟩ := (anyFrom_iff _ _ _).1 hh
  have hl := h.len
  unfold debtAt at h3
  simp at h3
  have := h.lo k (by omega)
  have e : dOf ds k = ds[k]?.getD 0 := rfl
  omega

theorem rdy_nodup (g : G) (q : Int) (N : Nat) (L : Nat → Int) : (rdyN g q N L).Nodup := by
  unfold rdyN waitTo List.Nodup
  rw [List.pairwise_map]
  have h : ((List.range N).filter (isRdy g q L)).Pairwise (· ≠ ·) := List.Pairwise.filter _ List.nodup_range
  exact h.imp (fun hne e => hne (Int.ofNat.inj e))
theorem fireAll_nn {g : G} (hg : Gok g) : ∀ (l : List Int) (L : Nat → Int), l.Nodup → (∀ v ∈ l, ∃ u : Nat, v = u ∧ valence g u ≤ L u) → (∀ u, 0 ≤ L u) → ∀ u, 0 ≤ fireAll g l L u
  | [], L, _, _, h => h
  | v :: l, L, hn, hv, h => by
    rw [fireAll_cons]
    obtain ⟨x, rfl, hx⟩ := hv v List.mem_cons_self
    rw [Int.toNat_natCast]
    obtain ⟨hn1, hn2⟩ := List.nodup_cons.1 hn
    refine fireAll_nn hg l _ hn2 (fun w hw => ?_) (fun u => ?_)
    · obtain ⟨y, rfl, hy⟩ := hv w (List.mem_cons_of_mem _ hw)
      refine ⟨y, rfl, ?_⟩
      have hne : y ≠ x := fun e => hn1 (by rw [← e]; exact hw)
      unfold fireL
      rw [if_neg hne]
      have := rowsF_bd hg x y
      omega
    · unfold fireL
      have := rowsF_bd hg x u
      have h0 := h u
      split
      · rename_i e; subst e; omega
      · omega
theorem fold_bal {g : G} {N : Nat} {d : Nat → Int} : ∀ (l : List Int) (s : St), (∀ v ∈ l, ∃ u : Nat, v = u ∧ u < N) → Bal g N d s → Bal g N d (l.foldl (fun s v => fireK g v.toNat 1 s) s)
  | [], s, _, h => h
  | v :: l, s, hv, h => by
    obtain ⟨u, rfl, hu⟩ := hv v List.mem_cons_self
    rw [List.foldl_cons, Int.toNat_natCast]
    exact fold_bal l _ (fun w hw => hv w (List.mem_cons_of_mem _ hw)) (bal_fire h hu (by omega))
theorem fold_sum {g : G} {N : Nat} (hN : N = g.n.toNat) : ∀ (l : List Int) (s : St), (∀ v ∈ l, ∃ u : Nat, v = u ∧ u < N) → sumTo (l.foldl (fun s v => fireK g v.toNat 1 s) s).L N = sumTo s.L N
  | [], s, _ => rfl
  | v :: l, s, hv => by
    obtain ⟨u, rfl, hu⟩ := hv v List.mem_cons_self
    rw [List.foldl_cons, Int.toNat_natCast, fold_sum hN l _ (fun w hw => hv w (List.mem_cons_of_mem _ hw)), fireK_sum hN s hu]
theorem rdy_lt (g : G) (q : Int) (N : Nat) (L : Nat → Int) : ∀ v ∈ rdyN g q N L, ∃ u : Nat, v = u ∧ u < N := fun v hv => by
  obtain ⟨u, h1, h2, _⟩ := rdy_mem g q N L v hv
  exact ⟨u, h1, h2⟩

/-- What holds behind each round of a closed game. -/
structure Cg (g : G) (N : Nat) (ds : List Int) (s : St) : Prop where
  bal : Bal g N (dOf ds) s
  nn : ∀ u, 0 ≤ s.L u
  sum : sumTo s.L N = sumTo (dOf ds) N
theorem Cg.start {g : G} {ds : List Int} (h : CgOk g ds) {N : Nat} : Cg g N ds (s0Of ds) := by
  refine ⟨bal_start g N _, fun u => ?_, rfl⟩
  by_cases hu : u < ds.length
  · exact h.lo u hu
  · show 0 ≤ dOf ds u
    unfold dOf
    rw [List.getElem?_eq_none (by omega)]
    exact Int.le_refl _
theorem Cg.next {g : G} {ds : List Int} (hg : Gok g) {N : Nat} (hN : N = g.n.toNat) {q : Int} {s : St} (h : Cg g N ds s) : Cg g N ds (rnd g q N s) := by
  refine ⟨fold_bal _ _ (rdy_lt g q N s.L) h.bal, ?_, (fold_sum hN _ _ (rdy_lt g q N s.L)).trans h.sum⟩
  rw [rnd_L]
  refine fireAll_nn hg _ _ (rdy_nodup g q N s.L) (fun v hv => ?_) h.nn
  obtain ⟨u, h1, _, _, _, h2⟩ := rdy_mem g q N s.L v hv
  exact ⟨u, h1, h2⟩
theorem Cg.to {g : G} {ds : List Int} (h : CgOk g ds) {N : Nat} (hN : N = g.n.toNat) (q : Int) : ∀ k, Cg g N ds (rndTo g q N (s0Of ds) k)
  | 0 => Cg.start h
  | k + 1 => (Cg.to h hN q k).next h.gok hN
theorem dOf_vec (N : Nat) (L : Nat → Int) (u : Nat) (hu : u < N) : dOf (vecOf N L) u = L u := vecOf_get _ _ _ hu
theorem sumTo_vec (N : Nat) (L : Nat → Int) : sumTo (dOf (vecOf N L)) N = sumTo L N := sumTo_congr _ _ N fun k hk => dOf_vec N L k hk
theorem Cg.ok {g : G} {ds : List Int} (h : CgOk g ds) {N : Nat} (hN : N = g.n.toNat) {s : St} (hs : Cg g N ds s) : CgOk g (vecOf N s.L) := by
  have hn := h.gok.n
  have hl := h.len
  refine ⟨h.gok, h.con, by rw [vecOf_len]; omega, fun u hu => ?_, ?_⟩
  · rw [vecOf_len] at hu
    rw [dOf_vec _ _ _ hu]
    exact hs.nn u
  · rw [vecOf_len, sumTo_vec, hs.sum]
    have := h.hi
    rwa [show ds.length = N by omega] at this
theorem rnd_T_hi (g : G) (q : Int) (N : Nat) (s : St) : ∀ k : Nat, sumTo (rndTo g q N s k).T N ≤ sumTo s.T N + k * N
  | 0 => by simp [rndTo]
  | k + 1 => by
    have h1 := rnd_T_hi g q N s k
    have h2 := rnd_sum g q N (rndTo g q N s k)
    have h3 := rdy_len g q N (rndTo g q N s k).L
    have e : rndTo g q N s (k + 1) = rnd g q N (rndTo g q N s k) := rfl
    have e2 : ((k + 1 : Nat) : Int) * N = k * N + N := by rw [Int.natCast_add, Int.add_mul]; simp
    rw [e, e2]
    omega
/-- The closed game that ends, and stabilizing with a sink. -/
theorem closed_law {g : G} {ds : List Int} (h : CgOk g ds) {n : Nat} (hn : n ≤ 2000) (he : rdyN g (-1) g.n.toNat (rndTo g (-1) g.n.toNat (s0Of ds) n).L = []) {q : Int} (hq : 0 ≤ q ∧ q < g.n) :
    ∃ r, stabR g q ds = .inr r ∧ (∀ u, u < g.n.toNat → 0 ≤ r.T u ∧ r.T u ≤ (rndTo g (-1) g.n.toNat (s0Of ds) n).T u) ∧ sumTo r.L g.n.toNat = sumTo (dOf ds) ds.length ∧ ∀ u, u < g.n.toNat → -1048576 ≤ r.L u ∧ r.L u ≤ 1048576 := by
  obtain ⟨Q, rfl⟩ := Int.eq_ofNat_of_zero_le hq.1
  have hgn := h.gok.n
  have hl := h.len
  have hQN : Q < g.n.toNat := by omega
  have hc := h.cfg hq
  have hpos : ∀ v, v < g.n.toNat → v ≠ Q → 0 < valence g v := fun v hv hne => val_pos h.gok h.con (q := Q) (by omega) (by omega) hne
  have hpos' : ∀ v : Nat, v < g.n.toNat → (v : Int) ≠ (Q : Int) → 0 < valence g v := fun v hv hne => hpos v hv (by omega)
  have hcg := Cg.to h rfl (-1) n
  have hT := rnd_T_hi g (-1) g.n.toNat (s0Of ds) n
  have hd0 : ∀ u, u < g.n.toNat → 0 ≤ dOf ds u ∧ dOf ds u ≤ 1048576 := fun u hu => h.each u (by omega)
  generalize rndTo g (-1) g.n.toNat (s0Of ds) n = sn at *
  have z : sumTo (fun _ => (0 : Int)) g.n.toNat = 0 := sumTo_zero _
  have z2 : sumTo (s0Of ds).T g.n.toNat = 0 := z
  have hSt : Stz g Q g.n.toNat (dOf ds) sn.T := by
    refine ⟨fun v hv hne => ?_, hcg.bal.2⟩
    rw [← hcg.bal.1 v hv]
    refine Int.not_le.1 fun hle => ?_
    have hm : (v : Int) ∈ rdyN g (-1) g.n.toNat sn.L := by
      unfold rdyN waitTo
      refine List.mem_map.2 ⟨v, List.mem_filter.2 ⟨List.mem_range.2 hv, ?_⟩, rfl⟩
      have := hpos' v hv hne
      unfold isRdy
      simp
      omega
    rw [he] at hm
    simp at hm
  have hTs : sumTo sn.T g.n.toNat ≤ 24000 := by
    have : (n : Int) * (g.n.toNat : Int) ≤ 2000 * 12 := Int.mul_le_mul (by omega) (by omega) (by omega) (by omega)
    omega
  have l2 := stGo_least h.gok (Q : Int) g.n.toNat (dOf ds) hpos' (maxF + 1) 0 ⟨dOf ds, fun _ => 0⟩ (bal_start g _ _) (fun τ ht u hu => ht.2 u hu) z.symm (by omega) (by omega)
  have hst : stabR g Q ds = match stGo g Q g.n.toNat (maxF + 1) 0 ⟨dOf ds, fun _ => 0⟩ with
      | none => .inl 12
      | some s => if 1048576 < s.L Q then .inl 11 else .inr s := by
    unfold stabR
    rw [if_neg (by simpa using hc), Int.toNat_natCast]
    cases stGo g Q g.n.toNat (maxF + 1) 0 ⟨dOf ds, fun _ => 0⟩ <;> rfl
  rw [hst]
  cases es : stGo g Q g.n.toNat (maxF + 1) 0 ⟨dOf ds, fun _ => 0⟩ with
  | none =>
    rw [es] at l2
    have := l2 _ hSt
    rw [maxF_eq] at this
    omega
  | some r =>
    rw [es] at l2
    dsimp only at l2 ⊢
    have hS := stGo_sum h.gok Q g.n.toNat rfl hpos _ _ _ r (fun u hu _ => (hd0 u hu).1) es
    have hS1 : sumTo r.L g.n.toNat = sumTo (dOf ds) g.n.toNat := hS.1
    have h1 := sumTo_ge2 r.L Q g.n.toNat hS.2 hQN
    have hlt : ∀ u, u < g.n.toNat → u ≠ Q → r.L u ≤ 600 := fun u hu hne => by
      have h5 := l2.2.1.1 u hu (by omega)
      rw [← l2.1.1 u hu] at h5
      have := val_bd h.gok u
      omega
    have h2 := (sumTo_lt r.L 600 (by omega) Q g.n.toNat hlt).1 hQN
    have h3 := h.hi
    have h4 := (sum_ge1 _ _ h.lo).2
    rw [show ds.length = g.n.toNat by omega] at h3 h4 ⊢
    rw [if_neg (by omega)]
    refine ⟨r, rfl, fun u hu => ⟨l2.1.2 u hu, l2.2.2.1 _ hSt u hu⟩, hS1, fun u hu => ?_⟩
    by_cases hne : u = Q
    · subst hne; omega
    · have := hlt u hu hne
      have := hS.2 u hu hne
      omega

end Go.Proofs.Ytbjoblkigbphhaa
