/-
  Plain laws: the closed game. If it ends, every vertex has fired at least as often as with any sink. Plain laws: legal firings, one after the other; certificates of the least action; rounds in which all fire at once; what is left completes the odometer.
-/
import Derived.Test.YtbjoblkigbphhaaGreatAb4
import Derived.Test.YtbjoblkigbphhaaGreatAb5
import Derived.Test.YtbjoblkigbphhaaGreatP20
namespace Go.Proofs.YtbjoblkigbphhaaGreat

/-- The number of the error of a divisor of a closed game. -/
def cgErr (g : G) (ds : List Int) : Int :=
  if checkErr g ≠ 0 then checkErr g else if parts g ≠ 1 then 13 else if dErr ds g.n ≠ 0 then dErr ds g.n else if ds.all (fun k => decide (0 ≤ k)) then (if 1048576 < sumTo (dOf ds) ds.length then 11 else 0) else 2
/-- A divisor with which a closed game can be played. -/
structure CgOk (g : G) (ds : List Int) : Prop where
  gok : Gok g
  con : parts g = 1
  len : (ds.length : Int) = g.n
  lo : ∀ u, u < ds.length → 0 ≤ dOf ds u
  hi : sumTo (dOf ds) ds.length ≤ 1048576
theorem sum_ge1 (f : Nat → Int) : ∀ n, (∀ k, k < n → 0 ≤ f k) → (∀ k, k < n → f k ≤ sumTo f n) ∧ 0 ≤ sumTo f n
  | 0, _ => ⟨fun k hk => by omega, Int.le_refl _⟩
  | n + 1, h => by
    have ih := sum_ge1 f n (fun k hk => h k (by omega))
    have hn := h n (by omega)
    have e : sumTo f (n + 1) = sumTo f n + f n := rfl
    refine ⟨fun k hk => ?_, by omega⟩
    by_cases hkn : k = n
    · subst hkn; omega
    · have := ih.1 k (by omega); omega
theorem CgOk.each {g : G} {ds : List Int} (h : CgOk g ds) (u : Nat) (hu : u < ds.length) : 0 ≤ dOf ds u ∧ dOf ds u ≤ 1048576 :=
  ⟨h.lo u hu, Int.le_trans ((sum_ge1 _ _ h.lo).1 u hu) h.hi⟩
theorem cg_ok {g : G} {ds : List Int} (h : cgErr g ds = 0) : CgOk g ds := by
  unfold cgErr at h
  by_cases h1 : checkErr g = 0
  · rw [if_neg (by simpa using h1)] at h
    by_cases h2 : parts g = 1
    · rw [if_neg (by simpa using h2)] at h
      by_cases h3 : dErr ds g.n = 0
      · rw [if_neg (by simpa using h3)] at h
        split at h
        · rename_i h4
          by_cases h5 : 1048576 < sumTo (dOf ds) ds.length
          · rw [if_pos h5] at h; simp at h
          · refine ⟨h1, h2, (dErr_ok h3).2.2.1, fun u hu => ?_, by omega⟩
            have := List.all_eq_true.1 h4 _ (List.getElem_mem hu)
            unfold dOf
            rw [List.getElem?_eq_getElem hu]
            simpa using this
        · simp at h
      · rw [if_pos (by simpa using h3)] at h; exact absurd h h3
    · rw [if_pos (by simpa using h2)] at h; simp at h
  · rw [if_pos (by simpa using h1)] at h; exact absurd h h1
theorem CgOk.all {g : G} {ds : List Int} (h : CgOk g ds) : ∀ k ∈ ds, 0 ≤ k ∧ k ≤ 1048576 := fun k hk => by
  obtain ⟨u, hu, rfl⟩ := List.mem_iff_getElem.1 hk
  have := h.each u hu
  unfold dOf at this
  rw [List.getElem?_eq_getElem hu] at this
  exact this
theorem CgOk.dErr {g : G} {ds : List Int} (h : CgOk g ds) : dErr ds g.n = 0 := by
  have hn := h.gok.n
  have hl := h.len
  unfold Go.Proofs.YtbjoblkigbphhaaGreat.dErr
  rw [if_neg (by omega), if_neg (by omega), if_pos]
  refine List.all_eq_true.2 fun k hk => ?_
  have := h.all k hk
  unfold inB
  simp
  omega
theorem CgOk.err {g : G} {ds : List Int} (h : CgOk g ds) : cgErr g ds = 0 := by
  have h4 : ds.all (fun k => decide (0 ≤ k)) = true := List.all_eq_true.2 fun k hk => by simpa using (h.all k hk).1
  have := h.hi
  unfold cgErr
  rw [if_neg (by have : checkErr g = 0 := h.gok; simpa using this), if_neg (by simpa using h.con), if_neg (by simpa using h.dErr), if_pos h4, if_neg (by omega)]
theorem CgOk.cfg {g : G} {ds : List Int} (h : CgOk g ds) {q : Int} (hq : 0 ≤ q ∧ q < g.n) : cfgErr g q ds = 0 := by
  unfold cfgErr
  have hr : rootedErr g q = 0 := by
    unfold rootedErr
    have : checkErr g = 0 := h.gok
    rw [if_neg (by simpa using this), if_neg (by simpa using h.con), if_pos (by unfold vtx; simp; omega)]
  rw [if_neg (by simpa using hr), if_neg (by simpa using h.dErr), if_neg]
  intro hh
  obtain ⟨k, _, h2, h3⟩ := (anyFrom_iff _ _ _).1 hh
  have hl := h.len
  unfold debtAt at h3
  simp at h3
  have := h.lo k (by omega)
  have e : dOf ds k = ds[k]?.getD 0 := rfl
  omega

theorem rdy_nodup (g : G) (q : Int) (N : Nat) (L : Nat → Int) : (rdyN g q N L).Nodup := by
  unfold rdyN waitTo List.Nodup
  rw [List.pairwise_map]
  have h : ((List.range N).filter (isRdy g q L)).Pairwise (· ≠ ·) := List.Pairwise.filter _ List.nodup_range
  exact h.imp (fun hne e => hne (Int.ofNat.inj e))
theorem fireAll_nn {g : G} (hg : Gok g) : ∀ (l : List Int) (L : Nat → Int), l.Nodup → (∀ v ∈ l, ∃ u : Nat, v = u ∧ valence g u ≤ L u) → (∀ u, 0 ≤ L u) → ∀ u, 0 ≤ fireAll g l L u
  | [], L, _, _, h => h
  | v :: l, L, hn, hv, h => by
    rw [fireAll_cons]
    obtain ⟨x, rfl, hx⟩ := hv v List.mem_cons_self
    rw [Int.toNat_natCast]
    obtain ⟨hn1, hn2⟩ := List.nodup_cons.1 hn
    refine fireAll_nn hg l _ hn2 (fun w hw => ?_) (fun u => ?_)
    · obtain ⟨y, rfl, hy⟩ := hv w (List.mem_cons_of_mem _ hw)
      refine ⟨y, rfl, ?_⟩
      have hne : y ≠ x := fun e => hn1 (by rw [← e]; exact hw)
      unfold fireL
      rw [if_neg hne]
      have := rowsF_bd hg x y
      omega
    · unfold fireL
      have := rowsF_bd hg x u
      have h0 := h u
      split
      · rename_i e; subst e; omega
      · omega
theorem fold_bal {g : G} {N : Nat} {d : Nat → Int} : ∀ (l : List Int) (s : St), (∀ v ∈ l, ∃ u : Nat, v = u ∧ u < N) → Bal g N d s → Bal g N d (l.foldl (fun s v => fireK g v.toNat 1 s) s)
  | [], s, _, h => h
  | v :: l, s, hv, h => by
    obtain ⟨u, rfl, hu⟩ := hv v List.mem_cons_self
    rw [List.foldl_cons, Int.toNat_natCast]
    exact fold_bal l _ (fun w hw => hv w (List.mem_cons_of_mem _ hw)) (bal_fire h hu (by omega))
theorem fold_sum {g : G} {N : Nat} (hN : N = g.n.toNat) : ∀ (l : List Int) (s : St), (∀ v ∈ l, ∃ u : Nat, v = u ∧ u < N) → sumTo (l.foldl (fun s v => fireK g v.toNat 1 s) s).L N = sumTo s.L N
  | [], s, _ => rfl
  | v :: l, s, hv => by
    obtain ⟨u, rfl, hu⟩ := hv v List.mem_cons_self
    rw [List.foldl_cons, Int.toNat_natCast, fold_sum hN l _ (fun w hw => hv w (List.mem_cons_of_mem _ hw)), fireK_sum hN s hu]
theorem rdy_lt (g : G) (q : Int) (N : Nat) (L : Nat → Int) : ∀ v ∈ rdyN g q N L, ∃ u : Nat, v = u ∧ u < N := fun v hv => by
  obtain ⟨u, h1, h2, _⟩ := rdy_mem g q N L v hv
  exact ⟨u, h1, h2⟩

/-- What holds behind each round of a closed game. -/
structure Cg (g : G) (N : Nat) (ds : List Int) (s : St) : Prop where
  bal : Bal g N (dOf ds) s
  nn : ∀ u, 0 ≤ s.L u
  sum : sumTo s.L N = sumTo (dOf ds) N
theorem Cg.start {g : G} {ds : List Int} (h : CgOk g ds) {N : Nat} : Cg g N ds (s0Of ds) := by
  refine ⟨bal_start g N _, fun u => ?_, rfl⟩
  by_cases hu : u < ds.length
  · exact h.lo u hu
  · show 0 ≤ dOf ds u
    unfold dOf
    rw [List.getElem?_eq_none (by omega)]
    exact Int.le_refl _
theorem Cg.next {g : G} {ds : List Int} (hg : Gok g) {N : Nat} (hN : N = g.n.toNat) {q : Int} {s : St} (h : Cg g N ds s) : Cg g N ds (rnd g q N s) := by
  refine ⟨fold_bal _ _ (rdy_lt g q N s.L) h.bal, ?_, (fold_sum hN _ _ (rdy_lt g q N s.L)).trans h.sum⟩
  rw [rnd_L]
  refine fireAll_nn hg _ _ (rdy_nodup g q N s.L) (fun v hv => ?_) h.nn
  obtain ⟨u, h1, _, _, _, h2⟩ := rdy_mem g q N s.L v hv
  exact ⟨u, h1, h2⟩
theorem Cg.to {g : G} {ds : List Int} (h : CgOk g ds) {N : Nat} (hN : N = g.n.toNat) (q : Int) : ∀ k, Cg g N ds (rndTo g q N (s0Of ds) k)
  | 0 => Cg.start h
  | k + 1 => (Cg.to h hN q k).next h.gok hN
theorem dOf_vec (N : Nat) (L : Nat → Int) (u : Nat) (hu : u < N) : dOf (vecOf N L) u = L u := vecOf_get _ _ _ hu
theorem sumTo_vec (N : Nat) (L : Nat → Int) : sumTo (dOf (vecOf N L)) N = sumTo L N := sumTo_congr _ _ N fun k hk => dOf_vec N L k hk
theorem Cg.ok {g : G} {ds : List Int} (h : CgOk g ds) {N : Nat} (hN : N = g.n.toNat) {s : St} (hs : Cg g N ds s) : CgOk g (vecOf N s.L) := by
  have hn := h.gok.n
  have hl := h.len
  refine ⟨h.gok, h.con, by rw [vecOf_len]; omega, fun u hu => ?_, ?_⟩
  · rw [vecOf_len] at hu
    rw [dOf_vec _ _ _ hu]
    exact hs.nn u
  · rw [vecOf_len, sumTo_vec, hs.sum]
    have := h.hi
    rwa [show ds.length = N by omega] at this
theorem rnd_T_hi (g : G) (q : Int) (N : Nat) (s : St) : ∀ k : Nat, sumTo (rndTo g q N s k).T N ≤ sumTo s.T N + k * N
  | 0 => by simp [rndTo]
  | k + 1 => by
    have h1 := rnd_T_hi g q N s k
    have h2 := rnd_sum g q N (rndTo g q N s k)
    have h3 := rdy_len g q N (rndTo g q N s k).L
    have e : rndTo g q N s (k + 1) = rnd g q N (rndTo g q N s k) := rfl
    have e2 : ((k + 1 : Nat) : Int) * N = k * N + N := by rw [Int.natCast_add, Int.add_mul]; simp
    rw [e, e2]
    omega
/-- The closed game that ends, and stabilizing with a sink. -/
theorem closed_law {g : G} {ds : List Int} (h : CgOk g ds) {n : Nat} (hn : n ≤ 2000) (he : rdyN g (-1) g.n.toNat (rndTo g (-1) g.n.toNat (s0Of ds) n).L = []) {q : Int} (hq : 0 ≤ q ∧ q < g.n) :
    ∃ r, stabR g q ds = .inr r ∧ (∀ u, u < g.n.toNat → 0 ≤ r.T u ∧ r.T u ≤ (rndTo g (-1) g.n.toNat (s0Of ds) n).T u) ∧ sumTo r.L g.n.toNat = sumTo (dOf ds) ds.length ∧ ∀ u, u < g.n.toNat → -1048576 ≤ r.L u ∧ r.L u ≤ 1048576 := by
  obtain ⟨Q, rfl⟩ := Int.eq_ofNat_of_zero_le hq.1
  have hgn := h.gok.n
  have hl := h.len
  have hQN : Q < g.n.toNat := by omega
  have hc := h.cfg hq
  have hpos : ∀ v, v < g.n.toNat → v ≠ Q → 0 < valence g v := fun v hv hne => val_pos h.gok h.con (q := Q) (by omega) (by omega) hne
  have hpos' : ∀ v : Nat, v < g.n.toNat → (v : Int) ≠ (Q : Int) → 0 < valence g v := fun v hv hne => hpos v hv (by omega)
  have hcg := Cg.to h rfl (-1) n
  have hT := rnd_T_hi g (-1) g.n.toNat (s0Of ds) n
  have hd0 : ∀ u, u < g.n.toNat → 0 ≤ dOf ds u ∧ dOf ds u ≤ 1048576 := fun u hu => h.each u (by omega)
  generalize rndTo g (-1) g.n.toNat (s0Of ds) n = sn at *
  have z : sumTo (fun _ => (0 : Int)) g.n.toNat = 0 := sumTo_zero _
  have z2 : sumTo (s0Of ds).T g.n.toNat = 0 := z
  have hSt : Stz g Q g.n.toNat (dOf ds) sn.T := by
    refine ⟨fun v hv hne => ?_, hcg.bal.2⟩
    rw [← hcg.bal.1 v hv]
    refine Int.not_le.1 fun hle => ?_
    have hm : (v : Int) ∈ rdyN g (-1) g.n.toNat sn.L := by
      unfold rdyN waitTo
      refine List.mem_map.2 ⟨v, List.mem_filter.2 ⟨List.mem_range.2 hv, ?_⟩, rfl⟩
      have := hpos' v hv hne
      unfold isRdy
      simp
      omega
    rw [he] at hm
    simp at hm
  have hTs : sumTo sn.T g.n.toNat ≤ 24000 := by
    have : (n : Int) * (g.n.toNat : Int) ≤ 2000 * 12 := Int.mul_le_mul (by omega) (by omega) (by omega) (by omega)
    omega
  have l2 := stGo_least h.gok (Q : Int) g.n.toNat (dOf ds) hpos' (maxF + 1) 0 ⟨dOf ds, fun _ => 0⟩ (bal_start g _ _) (fun τ ht u hu => ht.2 u hu) z.symm (by omega) (by omega)
  have hst : stabR g Q ds = match stGo g Q g.n.toNat (maxF + 1) 0 ⟨dOf ds, fun _ => 0⟩ with
      | none => .inl 12
      | some s => if 1048576 < s.L Q then .inl 11 else .inr s := by
    unfold stabR
    rw [if_neg (by simpa using hc), Int.toNat_natCast]
    cases stGo g Q g.n.toNat (maxF + 1) 0 ⟨dOf ds, fun _ => 0⟩ <;> rfl
  rw [hst]
  cases es : stGo g Q g.n.toNat (maxF + 1) 0 ⟨dOf ds, fun _ => 0⟩ with
  | none =>
    rw [es] at l2
    have := l2 _ hSt
    rw [maxF_eq] at this
    omega
  | some r =>
    rw [es] at l2
    dsimp only at l2 ⊢
    have hS := stGo_sum h.gok Q g.n.toNat rfl hpos _ _ _ r (fun u hu _ => (hd0 u hu).1) es
    have hS1 : sumTo r.L g.n.toNat = sumTo (dOf ds) g.n.toNat := hS.1
    have h1 := sumTo_ge2 r.L Q g.n.toNat hS.2 hQN
    have hlt : ∀ u, u < g.n.toNat → u ≠ Q → r.L u ≤ 600 := fun u hu hne => by
      have h5 := l2.2.1.1 u hu (by omega)
      rw [← l2.1.1 u hu] at h5
      have := val_bd h.gok u
      omega
    have h2 := (sumTo_lt r.L 600 (by omega) Q g.n.toNat hlt).1 hQN
    have h3 := h.hi
    have h4 := (sum_ge1 _ _ h.lo).2
    rw [show ds.length = g.n.toNat by omega] at h3 h4 ⊢
    rw [if_neg (by omega)]
    refine ⟨r, rfl, fun u hu => ⟨l2.1.2 u hu, l2.2.2.1 _ hSt u hu⟩, hS1, fun u hu => ?_⟩
    by_cases hne : u = Q
    · subst hne; omega
    · have := hlt u hu hne
      have := hS.2 u hu hne
      omega

end Go.Proofs.YtbjoblkigbphhaaGreat

namespace Go.Proofs.YtbjoblkigbphhaaGreat
set_option linter.unusedSimpArgs false
set_option linter.unusedVariables false
open Go.RowKit

/-- What legal firings lead to: the chips, and how often each vertex has fired. -/
inductive Leg (g : G) (q : Int) (N : Nat) (d : Nat → Int) : (Nat → Int) → (Nat → Int) → Prop
  | start : Leg g q N d d (fun _ => 0)
  | fire {L T : Nat → Int} (h : Leg g q N d L T) (v : Nat) (hv : v < N) (hq : (v : Int) ≠ q) (hu : valence g v ≤ L v) : Leg g q N d (fireK g v 1 ⟨L, T⟩).L (fireK g v 1 ⟨L, T⟩).T
theorem Leg.bal {g : G} {q : Int} {N : Nat} {d L T : Nat → Int} (h : Leg g q N d L T) : Bal g N d ⟨L, T⟩ := by
  induction h with
  | start => exact bal_start g N d
  | fire h v hv hq hu ih => exact bal_fire ih hv (by omega)
theorem Leg.nn {g : G} (hg : Gok g) {q : Int} {N : Nat} {d L T : Nat → Int} (h : Leg g q N d L T) (hd : ∀ u : Nat, (u : Int) ≠ q → 0 ≤ d u) : ∀ u : Nat, (u : Int) ≠ q → 0 ≤ L u := by
  induction h with
  | start => exact hd
  | @fire L T h v hv hq hu ih =>
    intro u hne
    show 0 ≤ (if u = v then L u - 1 * valence g v else L u) + 1 * rowsF g v u
    have h1 := ih u hne
    have h2 := (rowsF_bd hg v u).1
    split
    · rename_i e; subst e; omega
    · omega
theorem Leg.least {g : G} (hg : Gok g) {q : Int} {N : Nat} {d L T : Nat → Int} (h : Leg g q N d L T) : ∀ τ, Stz g q N d τ → ∀ u, u < N → T u ≤ τ u := by
  induction h with
  | start => exact fun τ ht u hu => ht.2 u hu
  | @fire L T h v hv hq hu ih =>
    intro τ ht u hun
    have h5 := least_one hg (k := 1) (Int.le_of_eq (h.bal.1 v hv)) (by show 1 * valence g v ≤ L v; omega) (ih τ ht) (ht.1 v hv hq)
    have := ih τ ht u hun
    show addT T v 1 u ≤ τ u
    unfold addT
    split
    · rename_i e; subst e; exact h5
    · exact this
theorem Leg.sink {g : G} {q : Int} {N : Nat} {d L T : Nat → Int} (h : Leg g q N d L T) : ∀ u : Nat, (u : Int) = q → T u = 0 := by
  induction h with
  | start => exact fun _ _ => rfl
  | @fire L T h v hv hq hu ih =>
    intro u hun
    show addT T v 1 u = 0
    unfold addT
    rw [if_neg (fun e => hq (by rw [← e]; exact hun))]
    exact ih u hun
theorem Leg.sum {g : G} {q : Int} {N : Nat} (hN : N = g.n.toNat) {d L T : Nat → Int} (h : Leg g q N d L T) : sumTo L N = sumTo d N := by
  induction h with
  | start => rfl
  | @fire L T h v hv hq hu ih => rw [fireK_sum hN ⟨L, T⟩ hv 1]; exact ih
theorem leg_all {g : G} (hg : Gok g) {q : Int} {N : Nat} {d : Nat → Int} : ∀ (l : List Int) (s : St), Leg g q N d s.L s.T → l.Nodup → (∀ v ∈ l, ∃ u : Nat, v = u ∧ u < N ∧ (u : Int) ≠ q ∧ valence g u ≤ s.L u) →
    Leg g q N d (l.foldl (fun s v => fireK g v.toNat 1 s) s).L (l.foldl (fun s v => fireK g v.toNat 1 s) s).T
  | [], s, h, _, _ => h
  | v :: l, s, h, hn, hv => by
    obtain ⟨x, rfl, hx, hq, hu⟩ := hv v List.mem_cons_self
    obtain ⟨hn1, hn2⟩ := List.nodup_cons.1 hn
    rw [List.foldl_cons, Int.toNat_natCast]
    refine leg_all hg l _ (h.fire x hx hq hu) hn2 fun w hw => ?_
    obtain ⟨y, rfl, hy, hyq, hyu⟩ := hv w (List.mem_cons_of_mem _ hw)
    refine ⟨y, rfl, hy, hyq, ?_⟩
    have hne : y ≠ x := fun e => hn1 (by rw [← e]; exact hw)
    show valence g y ≤ (if y = x then s.L y - 1 * valence g x else s.L y) + 1 * rowsF g x y
    rw [if_neg hne]
    have := (rowsF_bd hg x y).1
    omega
theorem leg_rnd {g : G} (hg : Gok g) {q : Int} {N : Nat} {d : Nat → Int} {s : St} (h : Leg g q N d s.L s.T) : Leg g q N d (rnd g q N s).L (rnd g q N s).T := by
  unfold rnd
  refine leg_all hg _ s h (rdy_nodup g q N s.L) fun v hv => ?_
  obtain ⟨u, h1, h2, h3, _, h5⟩ := rdy_mem g q N s.L v hv
  exact ⟨u, h1, h2, h3, h5⟩
theorem leg_rndTo {g : G} (hg : Gok g) (q : Int) (N : Nat) (ds : List Int) : ∀ k, Leg g q N (dOf ds) (rndTo g q N (s0Of ds) k).L (rndTo g q N (s0Of ds) k).T
  | 0 => Leg.start
  | k + 1 => leg_rnd hg (leg_rndTo hg q N ds k)

theorem rowsF_comm (g : G) (u v : Nat) : rowsF g u v = rowsF g v u := by
  unfold rowsF
  by_cases h : u = v
  · subst h; rfl
  · rw [if_pos h, if_pos (fun e => h e.symm), btw_comm]

/-- The edges from v into a set. -/
def insOf (g : G) (I : Nat → Bool) (v : Nat) (k : Nat) : Int := sumTo (fun u => if I u then rowsF g v u else 0) k
/-- A set that can be taken away from the least script is empty. -/
theorem cert_law {g : G} (hg : Gok g) {q : Int} {N : Nat} {d : Nat → Int} {r : St} (hb : Bal g N d r) (hs : Stz g q N d r.T) (hl : ∀ τ, Stz g q N d τ → ∀ u, u < N → r.T u ≤ τ u)
    {I : Nat → Bool} (hI : ∀ v, v < N → I v = true → 0 < r.T v ∧ r.L v < insOf g I v N) : ∀ v, v < N → I v = false := by
  have hlap : ∀ v, v < N → lapD g N d (fun u => r.T u - if I u then 1 else 0) v = r.L v + (if I v then valence g v else 0) - insOf g I v N := fun v hv => by
    rw [hb.1 v hv]
    have e : sumTo (fun u => r.T u * rowsF g u v) N = sumTo (fun u => (r.T u - if I u then 1 else 0) * rowsF g u v) N + insOf g I v N := by
      unfold insOf
      rw [← sumTo_add]
      refine sumTo_congr _ _ _ fun k hk => ?_
      rw [rowsF_comm g v k]
      cases I k
      · simp
      · simp only [if_true, Int.sub_mul]; omega
    unfold lapD
    rw [e]
    show d v - (r.T v - if I v = true then 1 else 0) * valence g v + sumTo (fun u => (r.T u - if I u = true then 1 else 0) * rowsF g u v) N = _
    by_cases hIv : I v = true
    · rw [if_pos hIv, if_pos hIv, Int.sub_mul]; omega
    · rw [if_neg hIv, if_neg hIv, Int.sub_mul]; omega
  have hnnI : ∀ v k, 0 ≤ insOf g I v k := fun v k => by
    induction k with
    | zero => exact Int.le_refl _
    | succ k ih =>
      have e : insOf g I v (k + 1) = insOf g I v k + if I k then rowsF g v k else 0 := rfl
      rw [e]
      have := (rowsF_bd hg v k).1
      split <;> omega
  have hτ : Stz g q N d (fun u => r.T u - if I u then 1 else 0) := by
    refine ⟨fun v hv hq => ?_, fun u hu => ?_⟩
    · rw [hlap v hv]
      cases hIv : I v
      · have h1 := hs.1 v hv hq
        rw [← hb.1 v hv] at h1
        have := hnnI v N
        simp
        omega
      · have := hI v hv hIv
        simp
        omega
    · dsimp only
      cases hIu : I u
      · have := hs.2 u hu; simp; omega
      · have := hI u hu hIu; simp; omega
  intro v hv
  cases hIv : I v
  · rfl
  · have := hl _ hτ v hv
    rw [hIv] at this
    simp at this
    omega

/-- What is there of a small pile. -/
structure PilOk (g : G) (q : Int) (ds : List Int) (Q : Nat) : Prop where
  gok : Gok g
  qq : q = Q
  qN : Q < g.n.toNat
  len : ds.length = g.n.toNat
  pos : ∀ v : Nat, v < g.n.toNat → (v : Int) ≠ q → 0 < valence g v
  d60 : ∀ u, -60 ≤ dOf ds u ∧ dOf ds u ≤ 60
  dnn : ∀ u : Nat, (u : Int) ≠ q → 0 ≤ dOf ds u
theorem pil_ok {g : G} {q : Int} {ds : List Int} (hc : cfgErr g q ds = 0) (hs : small17 ds = true) : ∃ Q, PilOk g q ds Q := by
  obtain ⟨hg, hq0, hqn, hdl, hdb, hdn⟩ := cfg_ok hc
  have hn := hg.n
  have hcon := cfg_con hc
  obtain ⟨Q, rfl⟩ := Int.eq_ofNat_of_zero_le hq0
  have hd0 : ∀ u, ds.length ≤ u → dOf ds u = 0 := fun u hu => by unfold dOf; rw [List.getElem?_eq_none hu]; rfl
  refine ⟨Q, hg, rfl, by omega, by omega, fun v hv hne => val_pos hg hcon (q := Q) (by omega) (by omega) (by omega), fun u => ?_, fun u hne => ?_⟩
  · by_cases hu : u < ds.length
    · unfold small17 at hs
      have := List.all_eq_true.1 hs _ (List.getElem_mem hu)
      simp at this
      unfold dOf
      rw [List.getElem?_eq_getElem hu]
      exact this
    · rw [hd0 u (by omega)]; omega
  · by_cases hu : u < ds.length
    · exact hdn u hu hne
    · rw [hd0 u (by omega)]; exact Int.le_refl _
theorem Leg.bd {g : G} {q : Int} {ds : List Int} {Q : Nat} (hp : PilOk g q ds Q) {L T : Nat → Int} (h : Leg g q g.n.toNat (dOf ds) L T) : ∀ u, u < g.n.toNat → -60 ≤ L u ∧ L u ≤ 800 := by
  have hn := hp.gok.n
  have h1 := h.sum rfl
  have h2 := sumTo_up (dOf ds) 60 g.n.toNat (fun u _ => (hp.d60 u).2)
  have hnn := h.nn hp.gok hp.dnn
  have hq : -60 ≤ L Q := by
    have := h.bal.1 Q hp.qN
    show _ ≤ L Q
    have e : (⟨L, T⟩ : St).L Q = L Q := rfl
    rw [e] at this
    rw [this]
    unfold lapD
    have hsk : (⟨L, T⟩ : St).T Q = 0 := h.sink Q hp.qq.symm
    rw [hsk]
    have h3 : 0 ≤ sumTo (fun v => T v * rowsF g v Q) g.n.toNat := by
      have : sumTo (fun _ => (0 : Int)) g.n.toNat ≤ sumTo (fun v => T v * rowsF g v Q) g.n.toNat := sumTo_le _ _ _ fun k hk => Int.mul_nonneg (h.bal.2 k hk) (rowsF_bd hp.gok k Q).1
      rw [sumTo_zero] at this
      exact this
    have := (hp.d60 Q).1
    dsimp only
    omega
  intro u hu
  by_cases hne : u = Q
  · subst hne
    have h4 := sumTo_ge2 L u g.n.toNat (fun k hk hkn => hnn k (by rw [hp.qq]; omega)) hp.qN
    omega
  · have h0 := hnn u (by rw [hp.qq]; omega)
    refine ⟨by omega, ?_⟩
    have h5 := sumTo_ge2 (fun i => if i = Q then 0 else L i) u g.n.toNat (fun k hk hkn => by split; exact Int.le_refl _; exact hnn k (by rw [hp.qq]; omega)) hu
    rw [if_neg hne] at h5
    have h6 : sumTo (fun i => if i = Q then 0 else L i) g.n.toNat = sumTo L g.n.toNat - L Q := by
      have := sumTo_at (fun i => if i = Q then 0 else L i) Q (L Q) g.n.toNat hp.qN
      rw [show (fun w => if w = Q then (if w = Q then 0 else L w) + L Q else if w = Q then 0 else L w) = L from funext fun w => by by_cases e : w = Q <;> simp [e]] at this
      omega
    omega
/-- Stabilizing a small pile: in time or not. -/
theorem stab_cases {g : G} {q : Int} {ds : List Int} (hc : cfgErr g q ds = 0) (hs : small17 ds = true) :
    (stabR g q ds = .inl 12 ∧ ∀ τ, Stz g q g.n.toNat (dOf ds) τ → (maxF : Int) < sumTo τ g.n.toNat) ∨
    ∃ r, stabR g q ds = .inr r ∧ Bal g g.n.toNat (dOf ds) r ∧ Stz g q g.n.toNat (dOf ds) r.T ∧ (∀ τ, Stz g q g.n.toNat (dOf ds) τ → ∀ u, u < g.n.toNat → r.T u ≤ τ u) ∧ sumTo r.T g.n.toNat ≤ maxF := by
  obtain ⟨Q, hp⟩ := pil_ok hc hs
  have hn := hp.gok.n
  have hqq := hp.qq
  subst hqq
  have hst : stabR g Q ds = match stGo g Q g.n.toNat (maxF + 1) 0 ⟨dOf ds, fun _ => 0⟩ with
      | none => .inl 12
      | some s => if 1048576 < s.L Q then .inl 11 else .inr s := by
    unfold stabR
    rw [if_neg (by simpa using hc), Int.toNat_natCast]
    cases stGo g Q g.n.toNat (maxF + 1) 0 ⟨dOf ds, fun _ => 0⟩ <;> rfl
  have z : sumTo (fun _ => (0 : Int)) g.n.toNat = 0 := sumTo_zero _
  have l2 := stGo_least hp.gok (Q : Int) g.n.toNat (dOf ds) hp.pos (maxF + 1) 0 ⟨dOf ds, fun _ => 0⟩ (bal_start g _ _) (fun τ ht u hu => ht.2 u hu) z.symm (by omega) (by omega)
  rw [hst]
  cases es : stGo g Q g.n.toNat (maxF + 1) 0 ⟨dOf ds, fun _ => 0⟩ with
  | none => rw [es] at l2; exact .inl ⟨rfl, l2⟩
  | some r =>
    rw [es] at l2
    refine .inr ⟨r, ?_, l2⟩
    have hS := stGo_sum hp.gok Q g.n.toNat rfl (fun v hv hne => hp.pos v hv (by omega)) _ _ _ r (fun u hu hne => hp.dnn u (by omega)) es
    have h1 := sumTo_ge2 r.L Q g.n.toNat hS.2 hp.qN
    have h2 := sumTo_up (dOf ds) 60 g.n.toNat (fun u _ => (hp.d60 u).2)
    have h4 : sumTo (St.L ⟨dOf ds, fun _ => 0⟩) g.n.toNat = sumTo (dOf ds) g.n.toNat := rfl
    exact if_neg (by omega)
theorem rdy_sta {g : G} {q : Int} {N : Nat} {L : Nat → Int} (hpos : ∀ v : Nat, v < N → (v : Int) ≠ q → 0 < valence g v) (h : rdyN g q N L = []) : StaN g q N L := fun v hv hq => by
  refine Int.not_le.1 fun hle => ?_
  have : (v : Int) ∈ rdyN g q N L := by
    unfold rdyN waitTo
    refine List.mem_map.2 ⟨v, List.mem_filter.2 ⟨List.mem_range.2 hv, ?_⟩, rfl⟩
    have := hpos v hv hq
    unfold isRdy
    simp [hq, hle, this]
  rw [h] at this
  cases this
theorem stz_leg {g : G} {q : Int} {N : Nat} {d L T : Nat → Int} (h : Leg g q N d L T) (hs : StaN g q N L) : Stz g q N d T :=
  ⟨fun v hv hq => by rw [← h.bal.1 v hv]; exact hs v hv hq, h.bal.2⟩
theorem bdd_in {N : Nat} {L : Nat → Int} (h : ∀ u, u < N → -1048576 ≤ L u ∧ L u ≤ 1048576) : bddB N L = true := by
  unfold bddB
  refine List.all_eq_true.2 fun k hk => ?_
  unfold vecOf at hk
  obtain ⟨u, hu, rfl⟩ := List.mem_map.1 hk
  have := h u (List.mem_range.1 hu)
  unfold inB
  simp
  omega
/-- Rounds in which all fire at once: they end in time just where stabilizing does, and with the same. -/
theorem rounds_law {g : G} {q : Int} {ds : List Int} (hc : cfgErr g q ds = 0) (hs : small17 ds = true) :
    (∀ R, (maxF : Int) < sumTo (rndTo g q g.n.toNat (s0Of ds) R).T g.n.toNat → stabR g q ds = .inl 12) ∧
    ∀ R, rdyN g q g.n.toNat (rndTo g q g.n.toNat (s0Of ds) R).L = [] → sumTo (rndTo g q g.n.toNat (s0Of ds) R).T g.n.toNat ≤ maxF → bddB g.n.toNat (rndTo g q g.n.toNat (s0Of ds) R).L = true ∧
      ∃ r, stabR g q ds = .inr r ∧ vecOf g.n.toNat (rndTo g q g.n.toNat (s0Of ds) R).L = vecOf g.n.toNat r.L ∧ vecOf g.n.toNat (rndTo g q g.n.toNat (s0Of ds) R).T = vecOf g.n.toNat r.T := by
  obtain ⟨Q, hp⟩ := pil_ok hc hs
  have hl := fun R => leg_rndTo hp.gok q g.n.toNat ds R
  refine ⟨fun R hR => ?_, fun R hR hle => ?_⟩
  · rcases stab_cases hc hs with h | ⟨r, _, _, h2, _, h3⟩
    · exact h.1
    · have := sumTo_le _ _ g.n.toNat ((hl R).least hp.gok r.T h2)
      omega
  · have hz := stz_leg (hl R) (rdy_sta hp.pos hR)
    refine ⟨bdd_in fun u hu => by have := (hl R).bd hp u hu; omega, ?_⟩
    rcases stab_cases hc hs with h | ⟨r, h1, h2, h3, h4, h5⟩
    · have := h.2 _ hz; omega
    · have hT : ∀ u, u < g.n.toNat → (rndTo g q g.n.toNat (s0Of ds) R).T u = r.T u := fun u hu => Int.le_antisymm ((hl R).least hp.gok _ h3 u hu) (h4 _ hz u hu)
      exact ⟨r, h1, vecOf_congr _ _ _ (bal_eq (hl R).bal h2 hT), vecOf_congr _ _ _ hT⟩

/-- Settling by any picks, and drifting. -/
theorem picks_law {g : G} {q : Int} {ds ps : List Int} (hc : cfgErr g q ds = 0) (hp : pkErr ps = 0) :
    match stabR g q ds with
    | .inl k => settleR g q ds ps = .inl k
    | .inr r => (∃ s, settleR g q ds ps = .inr s ∧ vecOf g.n.toNat s.L = vecOf g.n.toNat r.L ∧ vecOf g.n.toNat s.T = vecOf g.n.toNat r.T) ∧
        (driftP g q ds ps = .inl 12 ∨ ∃ s, driftP g q ds ps = .inr s ∧ vecOf g.n.toNat s.L = vecOf g.n.toNat r.L ∧ vecOf g.n.toNat s.T = vecOf g.n.toNat r.T) := by
  obtain ⟨hk, hq0, hqn, hdl, hdb, _⟩ := cfg_ok hc
  have hn := hk.n
  obtain ⟨Q, rfl⟩ := Int.eq_ofNat_of_zero_le hq0
  have hgv : givErr g Q ds ps = 0 := by unfold givErr; simp [hc, hp]
  have hpos : ∀ v : Nat, v < g.n.toNat → (v : Int) ≠ (Q : Int) → 0 < valence g v := fun v hv hne => val_pos hk (cfg_con hc) (q := Q) (by omega) hv (by omega)
  have h := settle_stab hk (Q : Int) g.n.toNat (dOf ds) ps (pk_ok hp).2.2 hpos
  have z : sumTo (fun _ => (0 : Int)) g.n.toNat = 0 := sumTo_zero _
  have ok0 : okD g.n.toNat 0 ⟨dOf ds, fun _ => 0, [], 0⟩ := by
    refine ⟨fun u hu => ?_, fun u hu => by dsimp only; omega, Nat.zero_le _, fun v hv => (by cases hv), Int.le_refl _, by dsimp only; omega⟩
    have hu' : u < ds.length := by omega
    have := hdb _ (List.getElem_mem hu')
    show _ ≤ dOf ds u ∧ dOf ds u ≤ _
    unfold dOf
    rw [List.getElem?_eq_getElem hu']
    simp only [Option.getD_some]
    omega
  have hst := stGo_least hk (Q : Int) g.n.toNat (dOf ds) hpos (maxF + 1) 0 ⟨dOf ds, fun _ => 0⟩ (bal_start g _ _) (fun τ ht u hu => ht.2 u hu) z.symm (by omega) (by omega)
  have hd := drGo_least hk (Q : Int) g.n.toNat rfl (by omega) (dOf ds) ps maxF 0 0 _ (balD_start g _ _) ok0 (fun τ ht u hu => ht.2 u hu)
  rw [settleR_eq hgv]
  unfold stabR driftP
  rw [if_neg (by simpa using hc), if_neg (by simpa using hgv)]
  cases e2 : stGo g Q g.n.toNat (maxF + 1) 0 ⟨dOf ds, fun _ => 0⟩ with
  | none =>
    cases e1 : sGo g Q g.n.toNat ps maxF 0 ⟨dOf ds, fun _ => 0⟩ with
    | none => rfl
    | some r => rw [e1, e2] at h; exact h.elim
  | some r =>
    rw [e2] at hst
    dsimp only at hst
    obtain ⟨s1, s2, s3, _⟩ := hst
    cases e1 : sGo g Q g.n.toNat ps maxF 0 ⟨dOf ds, fun _ => 0⟩ with
    | none => rw [e1, e2] at h; exact h.elim
    | some s =>
      rw [e1, e2] at h
      dsimp only at h ⊢
      rw [Int.toNat_natCast, h.1 Q (by omega)]
      by_cases hx : 1048576 < r.L Q
      · rw [if_pos hx, if_pos hx]
      · rw [if_neg hx, if_neg hx]
        refine ⟨⟨s, rfl, vecOf_congr _ _ _ h.1, vecOf_congr _ _ _ h.2⟩, ?_⟩
        cases e3 : drGo g Q g.n.toNat ps maxF 0 ⟨dOf ds, fun _ => 0, [], 0⟩ with
        | none => exact .inl rfl
        | some t =>
          obtain ⟨r1, r2, r3, r4⟩ := hd t e3
          have hT : ∀ u, u < g.n.toNat → t.T u = r.T u := fun u hu => Int.le_antisymm (r4 _ s2 u hu) (s3 _ r3 u hu)
          have hL : ∀ u, u < g.n.toNat → t.L u = r.L u := bal_eq (s := ⟨t.L, t.T⟩) (r := r) ⟨r2, r1.nn⟩ s1 hT
          dsimp only
          rw [hL Q (by omega), if_neg hx]
          exact .inr ⟨t, rfl, vecOf_congr _ _ _ hL, vecOf_congr _ _ _ hT⟩

/-- What was fired legally is completed by the odometer of what is left. -/
theorem legal_law {g : G} {q : Int} {ds : List Int} (hc : cfgErr g q ds = 0) (hs : small17 ds = true) {L S : Nat → Int} (hL : Leg g q g.n.toNat (dOf ds) L S) {r : St} (hr : stabR g q ds = .inr r) :
    ∃ t, stabR g q (vecOf g.n.toNat L) = .inr t ∧ ∀ u, u < g.n.toNat → S u + t.T u = r.T u := by
  obtain ⟨Q, hp⟩ := pil_ok hc hs
  have hn := hp.gok.n
  have hqq := hp.qq
  subst hqq
  have hbd := hL.bd hp
  have hcw : cfgErr g Q (vecOf g.n.toNat L) = 0 := by
    refine cfg_mk hc (by rw [vecOf_len]; omega) (fun x hx => ?_) (fun v hv hne => ?_)
    · unfold vecOf at hx
      obtain ⟨u, hu, rfl⟩ := List.mem_map.1 hx
      have := hbd u (List.mem_range.1 hu)
      unfold inB
      simp
      omega
    · rw [vecOf_len] at hv
      rw [vecOf_get _ _ _ hv]
      exact hL.nn hp.gok hp.dnn v hne
  rcases stab_cases hc hs with h | ⟨r', hr', b1, b2, b3, b4⟩
  · rw [h.1] at hr; cases hr
  rw [hr] at hr'
  cases hr'
  have hdv : ∀ u, u < g.n.toNat → dOf (vecOf g.n.toNat L) u = L u := fun u hu => vecOf_get _ _ _ hu
  have hlapL : ∀ τ u, u < g.n.toNat → lapD g g.n.toNat (dOf (vecOf g.n.toNat L)) τ u = lapD g g.n.toNat (dOf ds) (fun v => S v + τ v) u := fun τ u hu => by
    rw [← lap_sum hL.bal.1 τ u hu]
    show lapD g g.n.toNat (dOf (vecOf g.n.toNat L)) τ u = lapD g g.n.toNat L τ u
    rw [lapD_add g _ L (dOf (vecOf g.n.toNat L)) τ u, hdv u hu]
    omega
  have hz1 : Stz g Q g.n.toNat (dOf (vecOf g.n.toNat L)) (fun u => r.T u - S u) := by
    refine ⟨fun v hv hne => ?_, fun u hu => by have := hL.least hp.gok r.T b2 u hu; dsimp only; omega⟩
    rw [hlapL _ v hv, show (fun v => S v + (r.T v - S v)) = r.T from funext fun v => by omega]
    exact b2.1 v hv hne
  have z : sumTo (fun _ => (0 : Int)) g.n.toNat = 0 := sumTo_zero _
  have l2 := stGo_least hp.gok (Q : Int) g.n.toNat (dOf (vecOf g.n.toNat L)) hp.pos (maxF + 1) 0 ⟨dOf (vecOf g.n.toNat L), fun _ => 0⟩ (bal_start g _ _) (fun τ ht u hu => ht.2 u hu) z.symm (by omega) (by omega)
  unfold stabR
  rw [if_neg (by simpa using hcw), Int.toNat_natCast]
  cases es : stGo g Q g.n.toNat (maxF + 1) 0 ⟨dOf (vecOf g.n.toNat L), fun _ => 0⟩ with
  | none =>
    rw [es] at l2
    have h1 := l2 _ hz1
    have h2 := sumTo_le (fun u => r.T u - S u) r.T g.n.toNat (fun u hu => by have := hL.bal.2 u hu; dsimp only at this ⊢; omega)
    omega
  | some t =>
    rw [es] at l2
    obtain ⟨c1, c2, c3, _⟩ := l2
    have hS := stGo_sum hp.gok Q g.n.toNat rfl (fun v hv hne => hp.pos v hv (by omega)) _ _ _ t (fun u hu hne => by show 0 ≤ dOf (vecOf g.n.toNat L) u; rw [hdv u hu]; exact hL.nn hp.gok hp.dnn u (by omega)) es
    have h1 := sumTo_ge2 t.L Q g.n.toNat hS.2 hp.qN
    have h2 := sumTo_up (dOf (vecOf g.n.toNat L)) 800 g.n.toNat (fun u hu => by rw [hdv u hu]; exact (hbd u hu).2)
    have h4 : sumTo (St.L ⟨dOf (vecOf g.n.toNat L), fun _ => 0⟩) g.n.toNat = sumTo (dOf (vecOf g.n.toNat L)) g.n.toNat := rfl
    refine ⟨t, if_neg (by omega), fun u hu => ?_⟩
    have a1 := c3 _ hz1 u hu
    have hz2 : Stz g Q g.n.toNat (dOf ds) (fun u => S u + t.T u) := by
      refine ⟨fun v hv hne => ?_, fun u hu => by have := hL.bal.2 u hu; have := c2.2 u hu; dsimp only at *; omega⟩
      rw [← hlapL _ v hv]
      exact c2.1 v hv hne
    have a2 := b3 _ hz2 u hu
    omega
/-- What a script moves is what it leaves. -/
theorem moved_lap (g : G) (d s : Nat → Int) (u : Nat) (hu : u < g.n.toNat) : movedV g d s u = lapD g g.n.toNat d s u := by
  unfold movedV lapD
  rw [val_rows g u _ rfl]
  have e : sumTo (mv g s u) g.n.toNat + s u * sumTo (rowsF g u) g.n.toNat = sumTo (fun v => s v * rowsF g v u) g.n.toNat := by
    have e1 : s u * sumTo (rowsF g u) g.n.toNat = sumTo (fun w => s u * rowsF g u w) g.n.toNat := (sumTo_mul (s u) (rowsF g u) g.n.toNat).symm
    rw [e1, ← sumTo_add]
    refine sumTo_congr _ _ _ fun k hk => ?_
    unfold mv rowsF
    by_cases h : u = k
    · subst h; simp
    · rw [if_pos h, if_pos h, if_pos (fun e => h e.symm), btw_comm g k u, Int.mul_sub, Int.mul_comm (s u), Int.mul_comm (s k)]; omega
  omega

end Go.Proofs.YtbjoblkigbphhaaGreat
