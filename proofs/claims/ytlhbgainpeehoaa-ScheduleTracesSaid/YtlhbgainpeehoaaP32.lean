/-
  Contract of stabilize: fire.
-/
import Derived.Test.YtlhbgainpeehoaaP31
namespace Go.Proofs.Ytlhbgainpeehoaa
set_option linter.unusedVariables false
open Go.RowKit

theorem kept_refl (w : World) (p : Nat → Prop) : KeptB w w p := ⟨Nat.le_refl _, fun _ _ _ => rfl⟩
theorem kept_set {w w1 : World} {p : Nat → Prop} (h : KeptB w w1 p) {b : Nat} (hb : p b) (o : Nat) (v : Value) : KeptB w (w1.setCell ⟨b, o, none⟩ v) p :=
  ⟨by simpa using h.1, fun k hk hne => by rw [Below.heap_setCell _ ⟨b, o, none⟩ _ k (fun e => hne (by rw [show k = b from e]; exact hb))]; exact h.2 k hk hne⟩
theorem kept_trans {w w1 w2 : World} {p q : Nat → Prop} (h : KeptB w w1 p) (h2 : KeptB w1 w2 q) (hq : ∀ k, q k → p k) : KeptB w w2 p :=
  ⟨Nat.le_trans h.1 h2.1, fun k hk hne => (h2.2 k (by have := h.1; omega) (fun e => hne (hq k e))).trans (h.2 k hk hne)⟩
theorem kept_below {w w1 : World} {p : Nat → Prop} (h : Below w.heap.size w w1) : KeptB w w1 p := ⟨h.size, fun k hk _ => h.block k hk⟩

/-- The chips while v fires k times: v's loss is gone, the neighbours below u have theirs. -/
def kSt (g : G) (v : Nat) (k : Int) (u : Nat) (L : Nat → Int) (j : Nat) : Int := (if j = v then L j - k * valence g v else L j) + if j < u then k * rowsF g v j else 0
theorem kSt_zero (g : G) (v : Nat) (k : Int) (L : Nat → Int) (j : Nat) : (if j = v then L v - k * valence g v else L j) = kSt g v k 0 L j := by
  unfold kSt
  by_cases e : j = v
  · subst e; simp
  · simp [e]
theorem kSt_succ (g : G) (v : Nat) (k : Int) (u : Nat) (L : Nat → Int) (j : Nat) : (if j = u then kSt g v k u L u + k * rowsF g v u else kSt g v k u L j) = kSt g v k (u + 1) L j := by
  unfold kSt
  by_cases h : j = u
  · subst h; simp
  · rw [if_neg h]
    congr 1
    by_cases h2 : j < u
    · rw [if_pos h2, if_pos (by omega)]
    · rw [if_neg h2, if_neg (by omega)]
theorem kSt_end (g : G) (v : Nat) (k : Int) (N : Nat) (L T : Nat → Int) (j : Nat) (hj : j < N) : kSt g v k N L j = (fireK g v k ⟨L, T⟩).L j := by
  show _ = (if j = v then L j - k * valence g v else L j) + k * rowsF g v j
  unfold kSt
  rw [if_pos hj]
theorem kSt_low (g : G) (v : Nat) (k : Int) (u : Nat) (L T : Nat → Int) (j : Nat) (hj : j < u) : kSt g v k u L j = (fireK g v k ⟨L, T⟩).L j := kSt_end g v k u L T j hj
theorem isUnst_congr (g : G) (q : Int) (L L' : Nat → Int) (v : Nat) (h : L v = L' v) : isUnst g q L v = isUnst g q L' v := by unfold isUnst; rw [h]

set_option maxRecDepth 100000 in
set_option maxHeartbeats 4000000 in
theorem p_fire (f : PFr) (w : World) (L T : Nat → Int) (tot : Int) (wt : Nat → Bool) (h : PiI f w L T tot wt) (v : Nat) (hv : v < f.N) (k : Int) (hk0 : 0 ≤ k) (hk1 : k ≤ 1000000000)
    (hL : ∀ u, u < f.N → -1000000000000 ≤ L u ∧ L u ≤ 1000000000000) (hT : 0 ≤ T v ∧ T v ≤ 1000000000000) (ht : 0 ≤ tot ∧ tot ≤ 1000000000000) :
    Calls Try.prog 111 #[.pointer (some ⟨f.b, 0, none⟩), .int .i64 v, .int .i64 k] w fun e w' => e = .returned (.tuple #[]) ∧
      PiI f w' (fireK f.g v k ⟨L, T⟩).L (fireK f.g v k ⟨L, T⟩).T (tot + k) (fun u => if u < f.N then isUnst f.g f.q (fireK f.g v k ⟨L, T⟩).L u else wt u) ∧ KeptB w w' (fun j => j = f.b ∨ j = f.bd ∨ j = f.bf) := by
  obtain ⟨p0, p1, p2, p3, p4, p5⟩ := h.cells
  obtain ⟨hn1, hn2⟩ := h.N12
  have c1 := h.leftAt v hv
  have c2 := h.valsAt v hv
  have fb := h.left.frozenAt v
  have l0 := h.blk.lt
  have l1 := (owns_lt h.left).2
  have l2 := (owns_lt h.vals).2
  have hv0 : (0 : Int) ≤ (v : Int) := by omega
  have hv1 : (v : Int) < (f.N : Int) := by omega
  have HVB := hid (val_bd h.gok v)
  have HRB := hid (fun u => rowsF_bd h.gok v u)
  have HLB := hid hL
  have hkv : 0 ≤ k * valence f.g v ∧ k * valence f.g v ≤ 600000000000 := by
    refine ⟨Int.mul_nonneg hk0 HVB.out.1, ?_⟩
    have := Int.mul_le_mul hk1 HVB.out.2 HVB.out.1 (by omega)
    omega
  have hkr : ∀ u, 0 ≤ k * rowsF f.g v u ∧ k * rowsF f.g v u ≤ 50000000000 := fun u => by
    refine ⟨Int.mul_nonneg hk0 (HRB.out u).1, ?_⟩
    have := Int.mul_le_mul hk1 (HRB.out u).2 (HRB.out u).1 (by omega)
    omega
  have HKR := hid hkr
  have HKV := hid hkv
  have w1 : IntKind.i64.wrap (k * valence f.g v) = k * valence f.g v := IntWalk.i64_in _ (by omega)
  have w2 : IntKind.i64.wrap (L v - k * valence f.g v) = L v - k * valence f.g v := IntWalk.i64_in _ (by have := hL v hv; omega)
  have HP0 : Hid (PiI f (w.setCell ⟨f.bd, v, none⟩ (.int .i64 (L v - k * valence f.g v))).drew (kSt f.g v k 0 L) T tot (fun j => if j < 0 then isUnst f.g f.q (fireK f.g v k ⟨L, T⟩).L j else wt j)) :=
    ((h.setL v _).congr (fun j _ => kSt_zero _ _ _ _ _) (fun _ _ => rfl) (fun j _ => by simp)).drew
  have HK0 : Hid (KeptB w (w.setCell ⟨f.bd, v, none⟩ (.int .i64 (L v - k * valence f.g v))).drew (fun j => j = f.b ∨ j = f.bd ∨ j = f.bf)) := kept_trans (kept_set (kept_refl _ _) (.inr (.inl rfl)) _ _) (kept_below (p := fun _ => False) (Below.drew (Below.refl _ _))) (fun _ h => h.elim)
  have HT := hid hT
  have HTT := hid ht
  clear h hL hkv hkr hT ht
  obtain ⟨b, hbe⟩ : ∃ b, b = f.b := ⟨_, rfl⟩
  obtain ⟨bd, hde⟩ : ∃ b, b = f.bd := ⟨_, rfl⟩
  rw [← hbe] at p0 p1 p2 p3 p4 p5 l0 ⊢
  rw [← hde] at p0 c1 fb l1 HP0 HK0
  have HBE := hid hbe
  have HDE := hid hde
  clear hbe hde
  go_enter Try.func111, Try.ntmps111
  let S : World → Prop := fun w' => w'.cell? ⟨b, 0, none⟩ = some (.slice (some ⟨bd, 0, none⟩) f.N f.cd) ∧ w'.cell? ⟨b, 3, none⟩ = some (.slice (some ⟨f.bv, 0, none⟩) f.N f.N) ∧ w'.cell? ⟨bd, v, none⟩ = some (.int .i64 (L v)) ∧ w'.cell? ⟨f.bv, v, none⟩ = some (.int .i64 (valence f.g v))
  go_wp2
  (refine wp_region_text 18 [0,1,2,3,4,5,6,7,8,9,10,11,12,13,14,15,16,17] S (by kernel_rfl) (by kernel_rfl) (by intro _ _ d _ _ h; cases d <;> exact h) ?hS ?_; rotate_left; simp only [List.map_cons, List.map_nil, List.getD_cons_zero, List.getD_cons_succ, List.drop_succ_cons, List.drop_zero])
  case hS => exact ⟨p0, p3, c1, c2⟩
  (repeat (refine' wpSeq_take rfl _ (by rfl) ?_ ?_; rotate_left; focus (intro w' hS; (try dsimp only at hS); obtain ⟨s1, s2, s3, s4⟩ := hS; go_simp; (first | done | with_reducible rfl)); (try simp only [Act.put, List.setIfInBounds_toArray, List.set_cons_zero, List.set_cons_succ])))
  refine wpSeq_nil ?_
  clear S
  go_upto_region 1 with fail
  obtain ⟨W1, hW1⟩ : ∃ W : World, W = (w.setCell ⟨bd, v, none⟩ (.int .i64 (L v - k * valence f.g v))).drew := ⟨_, rfl⟩
  rw [← hW1]
  rw [← hW1] at HP0 HK0
  clear hW1 p0 p1 p2 p3 p4 p5 c1 c2 fb w1 w2 l0 l1 l2
  have HK0 : Hid (KeptB w W1 (fun j => j = f.b ∨ j = f.bd ∨ j = f.bf)) := by have h := HK0.out; rw [HDE.out] at h; exact h
  obtain ⟨_, _, p2, _, _, _⟩ := HP0.out.cells
  have g1 := HP0.out.rows.at v hv
  have l0 := HP0.out.blk.lt
  have l3 := (owns_lt HP0.out.rows.outer).2
  rw [← HBE.out] at p2 l0
  have HBS := hid (show f.bs v = f.bs v from rfl)
  have HRw := hid (fun (w1 : World) (L1 T1 : Nat → Int) (t1 : Int) (wt1 : Nat → Bool) (h : PiI f w1 L1 T1 t1 wt1) (u : Nat) (hu : u < f.N) => h.rows.cell v u hv hu)
  generalize f.bs v = br at *
  go_wp2
  go_loopw [34] (fun i wr => ∃ u : Nat, u ≤ f.N ∧ i = .int .i64 u ∧ Hid (PiI f wr (kSt f.g v k u L) T tot (fun j => if j < u then isUnst f.g f.q (fireK f.g v k ⟨L, T⟩).L j else wt j)) ∧ Hid (KeptB w wr (fun j => j = f.b ∨ j = f.bd ∨ j = f.bf))) (fun i _ => f.N - (intOf i).toNat)
  case atStart => exact ⟨0, Nat.zero_le _, rfl, HP0, HK0⟩
  case round =>
    clear HP0 HK0 p2 g1 l0 l3
    obtain ⟨u, hu, rfl, HP, HK⟩ := hrel
    obtain ⟨W3, rfl⟩ : ∃ W : World, W = wr := ⟨_, rfl⟩
    obtain ⟨q0, _, _, _, q4, q5⟩ := HP.out.cells
    have l0 := HP.out.blk.lt
    have l1 := (owns_lt HP.out.left).2
    rw [← HBE.out] at q0 q4 q5 l0
    by_cases hut : u < f.N
    · have c1 := HP.out.leftAt u hut
      have c2 := HRw.out _ _ _ _ _ HP.out u hut
      have fb := HP.out.left.frozenAt u
      rw [← HDE.out] at q0 c1 fb l1
      have hu1 : (u : Int) < (f.N : Int) := by omega
      have hu0 : (0 : Int) ≤ (u : Int) := by omega
      have hkr := HKR.out u
      have hsb : -2000000000000 ≤ kSt f.g v k u L u ∧ kSt f.g v k u L u ≤ 2000000000000 := by
        have h1 := HLB.out u hut
        have h2 := HKV.out
        unfold kSt
        rw [if_neg (show ¬ u < u by omega)]
        split
        · rename_i e; subst e; omega
        · omega
      have w1 : IntKind.i64.wrap (k * rowsF f.g v u) = k * rowsF f.g v u := IntWalk.i64_in _ (by omega)
      have w2 : IntKind.i64.wrap (kSt f.g v k u L u + k * rowsF f.g v u) = kSt f.g v k u L u + k * rowsF f.g v u := IntWalk.i64_in _ (by omega)
      have HP2 : Hid (PiI f (W3.setCell ⟨bd, u, none⟩ (.int .i64 (kSt f.g v k u L u + k * rowsF f.g v u))) (kSt f.g v k (u + 1) L) T tot (fun j => if j < u then isUnst f.g f.q (fireK f.g v k ⟨L, T⟩).L j else wt j)) := by
        rw [HDE.out]
        exact (HP.out.setL u _).congr (fun j _ => kSt_succ _ _ _ _ _ _) (fun _ _ => rfl) (fun _ _ => rfl)
      have HK2 : Hid (KeptB w (W3.setCell ⟨bd, u, none⟩ (.int .i64 (kSt f.g v k u L u + k * rowsF f.g v u))) (fun j => j = f.b ∨ j = f.bd ∨ j = f.bf)) := kept_set HK.out (.inr (.inl HDE.out)) _ _
      have hwt := hid (p_wait f _ _ _ _ _ HP2.out u hut)
      rw [← HBE.out] at hwt
      have HWE : Hid (∀ j : Nat, j < 12 → (if j = u then isUnst f.g f.q (kSt f.g v k (u + 1) L) j else if j < u then isUnst f.g f.q (fireK f.g v k ⟨L, T⟩).L j else wt j) = if j < u + 1 then isUnst f.g f.q (fireK f.g v k ⟨L, T⟩).L j else wt j) := fun j _ => by
        by_cases e : j = u
        · subst e
          rw [if_pos rfl, if_pos (by omega)]
          exact isUnst_congr _ _ _ _ _ (kSt_low f.g v k _ L T _ (by omega))
        · rw [if_neg e]
          by_cases e2 : j < u
          · rw [if_pos e2, if_pos (by omega)]
          · rw [if_neg e2, if_neg (by omega)]
      generalize kSt f.g v k u L u = x at *
      generalize rowsF f.g v u = r at *
      clear hkr hsb HP HK q4 q5
      go_wp2_with (go_at_call 110; refine hwt.out.mono ?_; rintro e w4 ⟨rfl, hP4, hK4⟩; have HP4 := hid hP4; have HK4 := hid hK4; clear hP4 hK4)
      go_roundw
      case rel => exact ⟨u + 1, by omega, by go_num, HP4.out.congr (fun _ _ => rfl) (fun _ _ => rfl) HWE.out, kept_trans HK2.out HK4.out (fun j hj => .inl (by rw [show j = b from hj]; exact HBE.out))⟩
      case measure => simp [intOf]; omega
    · obtain rfl : u = f.N := by omega
      have hu1 : ¬ (f.N : Int) < (f.N : Int) := by omega
      clear q0 l1
      have HPN : Hid (PiI f W3 (fireK f.g v k ⟨L, T⟩).L T tot (fun j => if j < f.N then isUnst f.g f.q (fireK f.g v k ⟨L, T⟩).L j else wt j)) := HP.out.congr (fun j hj => kSt_end _ _ _ _ _ _ _ hj) (fun _ _ => rfl) (fun _ _ => rfl)
      have hwt := hid (p_wait f _ _ _ _ _ HPN.out v hv)
      rw [← HBE.out] at hwt
      have HWE : Hid (∀ j : Nat, j < 12 → (if j = v then isUnst f.g f.q (fireK f.g v k ⟨L, T⟩).L j else if j < f.N then isUnst f.g f.q (fireK f.g v k ⟨L, T⟩).L j else wt j) = if j < f.N then isUnst f.g f.q (fireK f.g v k ⟨L, T⟩).L j else wt j) := fun j _ => by
        by_cases e : j = v
        · subst e; rw [if_pos rfl, if_pos hv]
        · rw [if_neg e]
      clear q4 q5
      go_upto_region 8 with (go_at_call 110; refine hwt.out.mono ?_; rintro e w4 ⟨rfl, hP4, hK4⟩; have HP4 := hid (hP4.congr (fun _ _ => rfl) (fun _ _ => rfl) HWE.out); have HK4 := hid (kept_trans HK.out hK4 (fun j hj => .inl (by rw [show j = b from hj]; exact HBE.out))); clear hP4 hK4)
      obtain ⟨_, _, _, _, q4, _⟩ := HP4.out.cells
      have c1 := HP4.out.firedAt v hv
      have fb := HP4.out.fired.frozenAt v
      have l1 := (owns_lt HP4.out.fired).2
      rw [← HBE.out] at q4
      have wt1 : IntKind.i64.wrap (T v + k) = T v + k := IntWalk.i64_in _ (by have := HT.out; omega)
      have wt2 : IntKind.i64.wrap (tot + k) = tot + k := IntWalk.i64_in _ (by have := HTT.out; omega)
      clear HP HK HPN hwt l0
      go_upto_region 9 with fail
      obtain ⟨W5, hW5⟩ : ∃ W : World, W = w4.setCell ⟨f.bf, v, none⟩ (.int .i64 (T v + k)) := ⟨_, rfl⟩
      rw [← hW5]
      have HP5 : Hid (PiI f W5 (fireK f.g v k ⟨L, T⟩).L (fireK f.g v k ⟨L, T⟩).T tot (fun j => if j < f.N then isUnst f.g f.q (fireK f.g v k ⟨L, T⟩).L j else wt j)) := by
        rw [hW5]
        refine (HP4.out.setF v (T v + k)).congr (fun _ _ => rfl) (fun u _ => ?_) (fun _ _ => rfl)
        show (if u = v then T v + k else T u) = if u = v then T u + k else T u
        by_cases e : u = v
        · subst e; simp
        · simp [e]
      have HK5 : Hid (KeptB w W5 (fun j => j = f.b ∨ j = f.bd ∨ j = f.bf)) := by rw [hW5]; exact kept_set HK4.out (.inr (.inr rfl)) _ _
      clear hW5 HP4 HK4 q4 c1 fb l1
      obtain ⟨_, _, _, _, _, q5⟩ := HP5.out.cells
      have l0 := HP5.out.blk.lt
      have fb := HP5.out.blk.frozen 5
      have HP6 := hid (HP5.out.setTot (tot + k))
      have HK6 := hid (kept_set HK5.out (b := f.b) (.inl rfl) 5 (.int .i64 (tot + k)))
      rw [← HBE.out] at q5 l0 fb HP6 HK6
      go_wp2
      go_end0
      exact ⟨rfl, HP6.out, by have h := HK6.out; rw [HBE.out] at h ⊢; exact h⟩

end Go.Proofs.Ytlhbgainpeehoaa
