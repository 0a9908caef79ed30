/-
  Contracts of stabilize: settle, settled.
-/
import Derived.Test.YtlhbgainpeehoaaP32
namespace Go.Proofs.Ytlhbgainpeehoaa
set_option linter.unusedVariables false
open Go.RowKit

theorem firstT_none (p : Nat → Bool) : ∀ f k, (∀ i, k ≤ i → i < k + f → p i = false) → firstT p k f = -1
  | 0, _, _ => rfl
  | f + 1, k, h => by
    unfold firstT
    rw [h k (Nat.le_refl _) (by omega)]
    exact firstT_none p f (k + 1) fun i h1 h2 => h i (by omega) (by omega)
theorem firstT_some (p : Nat → Bool) (u : Nat) (hu : p u = true) : ∀ f k, k ≤ u → u < k + f → (∀ i, k ≤ i → i < u → p i = false) → firstT p k f = u
  | 0, k, h1, h2, _ => by omega
  | f + 1, k, h1, h2, h => by
    unfold firstT
    by_cases e : k = u
    · subst e; rw [hu]; rfl
    · rw [h k (Nat.le_refl _) (by omega)]
      exact firstT_some p u hu f (k + 1) (by omega) (by omega) fun i h3 h4 => h i (by omega) h4
theorem waitTo_head (p : Nat → Bool) : ∀ N, match waitTo p N with
    | [] => ∀ i, i < N → p i = false
    | v :: _ => ∃ u : Nat, v = u ∧ u < N ∧ p u = true ∧ ∀ i, i < u → p i = false
  | 0 => fun i h => by omega
  | N + 1 => by
    have ih := waitTo_head p N
    have e : waitTo p (N + 1) = waitTo p N ++ (if p N then [(N : Int)] else []) := by
      unfold waitTo
      rw [List.range_succ, List.filter_append, List.map_append]
      congr 1
      by_cases h : p N = true
      · simp [h]
      · simp [h]
    rw [e]
    cases hw : waitTo p N with
    | nil =>
      rw [hw] at ih
      by_cases h : p N = true
      · rw [if_pos h]
        exact ⟨N, rfl, by omega, h, ih⟩
      · rw [if_neg h]
        intro i hi
        by_cases e : i = N
        · subst e; simpa using h
        · exact ih i (by omega)
    | cons v l =>
      rw [hw] at ih
      obtain ⟨u, h1, h2, h3, h4⟩ := ih
      exact ⟨u, h1, by omega, h3, h4⟩
/-- The waiting vertices, as the pile notes them. -/
def WtOk (f : PFr) (L : Nat → Int) (wt : Nat → Bool) : Prop := ∀ u, u < 12 → wt u = (decide (u < f.N) && isUnst f.g f.q L u)
theorem firstT_wait (f : PFr) (L : Nat → Int) (wt : Nat → Bool) (hw : WtOk f L wt) (hN : f.N ≤ 12) : firstT wt 0 12 = match waitN f.g f.q f.N L with | [] => -1 | v :: _ => v := by
  have h := waitTo_head (isUnst f.g f.q L) f.N
  change match waitN f.g f.q f.N L with | [] => _ | v :: _ => _ at h
  cases hz : waitN f.g f.q f.N L with
  | nil =>
    rw [hz] at h
    refine firstT_none wt 12 0 fun i _ hi => ?_
    rw [hw i (by omega)]
    by_cases e : i < f.N
    · rw [h i e]; simp
    · simp [e]
  | cons v l =>
    rw [hz] at h
    obtain ⟨u, rfl, h2, h3, h4⟩ := h
    refine firstT_some wt u (by rw [hw u (by omega), h3]; simp [h2]) 12 0 (Nat.zero_le _) (by omega) fun i _ hi => ?_
    rw [hw i (by omega), h4 i hi]; simp

theorem okS_fireK {g : G} (hg : Gok g) {N : Nat} {c : Int} {i : Nat} {s : St} (h : okS N c i s) (v : Nat) (k : Nat) : okS N c (i + k) (fireK g v k s) := by
  have hv := val_bd hg v
  have h3 : 0 ≤ (k : Int) * valence g v ∧ (k : Int) * valence g v ≤ 600 * k := by
    refine ⟨Int.mul_nonneg (by omega) hv.1, ?_⟩
    rw [Int.mul_comm]
    exact Int.mul_le_mul_of_nonneg_right hv.2 (by omega)
  refine ⟨fun u hu => ?_, fun u hu => ?_⟩
  · have h1 := h.1 u hu
    have h2 := rowsF_bd hg v u
    have h4 : 0 ≤ (k : Int) * rowsF g v u ∧ (k : Int) * rowsF g v u ≤ 50 * k := by
      refine ⟨Int.mul_nonneg (by omega) h2.1, ?_⟩
      rw [Int.mul_comm]
      exact Int.mul_le_mul_of_nonneg_right h2.2 (by omega)
    show _ ≤ (if u = v then s.L u - k * valence g v else s.L u) + k * rowsF g v u ∧ (if u = v then s.L u - k * valence g v else s.L u) + k * rowsF g v u ≤ _
    split <;> omega
  · have h1 := h.2 u hu
    show _ ≤ (if u = v then s.T u + k else s.T u) ∧ (if u = v then s.T u + k else s.T u) ≤ _
    split <;> omega

/-- What settling leaves. -/
def RetStl (f : PFr) (z : Option St) (w : World) (e : Ending) (w' : World) : Prop :=
  (∃ (s : St) (tot : Nat) (wt : Nat → Bool), PiI f w' s.L s.T tot wt ∧ KeptB w w' (fun j => j = f.b ∨ j = f.bd ∨ j = f.bf) ∧ WtOk f s.L wt ∧ (tot : Int) = sumTo s.T f.N ∧
    ((z = some s ∧ e = .returned (.int .i64 0) ∧ tot ≤ maxF ∧ okS f.N 1048576 tot s) ∨ (z = none ∧ e = .returned (.int .i64 12))))

noncomputable def totOf (b : Nat) (w : World) : Nat := match w.cell? ⟨b, 5, none⟩ with | some (.int _ t) => t.toNat | _ => 0

set_option maxRecDepth 100000 in
set_option maxHeartbeats 4000000 in
theorem p_settle (f : PFr) (w : World) (s0 : St) (tot0 : Nat) (wt0 : Nat → Bool) (h : PiI f w s0.L s0.T tot0 wt0) (hw0 : WtOk f s0.L wt0) (hok : okS f.N 1048576 tot0 s0) (hs0 : (tot0 : Int) = sumTo s0.T f.N) (ht0 : tot0 ≤ maxF)
    (hpos : ∀ v, v < f.N → v ≠ f.q → 0 < valence f.g v) :
    Calls Try.prog 90 #[.pointer (some ⟨f.b, 0, none⟩)] w (RetStl f (stGo f.g f.q f.N (maxF + 1 - tot0) tot0 s0) w) := by
  generalize hz : stGo f.g f.q f.N (maxF + 1 - tot0) tot0 s0 = z
  have HZ : Hid (stGo f.g f.q f.N (maxF + 1 - tot0) tot0 s0 = z) := hz
  have hmf : ∀ (fn : Fn) (first cap : Array Value) (w : World), (Instr.makeFunc fn first cap).run Try.prog w = .ok (.func fn first cap) w := fun _ _ _ _ => rfl
  have HN := hid h.N12
  have HG := hid h.gok
  have hnx := hid (fun (w1 : World) (L T : Nat → Int) (t : Int) (wt : Nat → Bool) (h1 : PiI f w1 L T t wt) => p_next f w1 L T t wt h1)
  have HFW := hid (fun (L : Nat → Int) (wt : Nat → Bool) (h1 : WtOk f L wt) => firstT_wait f L wt h1 h.N12.2)
  have HP0 := hid h
  have HW0 := hid hw0
  have HOK0 := hid hok
  have HS0 := hid hs0
  have HT0 := hid ht0
  have HPOS := hid hpos
  have HMF : Hid ((maxF : Int) = 1048576) := maxF_eq
  have hnx0 := hid (hnx.out w _ _ _ _ h)
  clear hz h hw0 hok hs0 ht0 hpos
  obtain ⟨b, hbe⟩ : ∃ b, b = f.b := ⟨_, rfl⟩
  have HBE := hid hbe
  rw [← hbe] at hnx hnx0 ⊢
  clear hbe
  go_enter Try.func90, Try.ntmps90
  go_wp2_with (go_at_call 112; refine hnx0.out.mono ?_; rintro e w1 ⟨rfl, rfl⟩)
  go_loopw [4] (fun vv wr => ∃ (s : St) (tot fu : Nat) (wt : Nat → Bool), vv = .int .i64 (firstT wt 0 12) ∧ Hid (PiI f wr s.L s.T tot wt) ∧ Hid (WtOk f s.L wt) ∧ Hid (okS f.N 1048576 tot s) ∧ Hid ((tot : Int) = sumTo s.T f.N) ∧ Hid (tot ≤ maxF) ∧ Hid (maxF < fu + tot) ∧
      Hid (stGo f.g f.q f.N fu tot s = z) ∧ Hid (KeptB w wr (fun j => j = f.b ∨ j = f.bd ∨ j = f.bf))) (fun _ wr => maxF + 1 - totOf f.b wr)
  case atStart => exact ⟨s0, tot0, maxF + 1 - tot0, wt0, rfl, HP0, HW0, HOK0, HS0, HT0, by show _ < _; have := HT0.out; omega, HZ, kept_refl _ _⟩
  case round =>
    clear HP0 HW0 HOK0 HS0 HT0 HZ hnx0
    obtain ⟨s, tot, fu, wt, rfl, HP, HW, HOK, HS, HT, HFU, HZ, HK⟩ := hrel
    obtain ⟨W3, rfl⟩ : ∃ W : World, W = wr := ⟨_, rfl⟩
    have hfw := HFW.out _ _ HW.out
    cases hwn : waitN f.g f.q f.N s.L with
    | nil =>
      rw [hwn] at hfw
      rw [show firstT wt 0 12 = -1 from hfw]
      have HR : Hid (z = some s) := by
        show _ = _
        rw [← HZ.out]
        cases fu with
        | zero => unfold stGo; rw [if_pos hwn]
        | succ fu => unfold stGo; rw [hwn]
      clear hwn hfw
      go_wp2
      go_ret
      exact ⟨s, tot, wt, HP.out, HK.out, HW.out, HS.out, .inl ⟨HR.out, rfl, HT.out, HOK.out⟩⟩
    | cons x l =>
      rw [hwn] at hfw
      obtain ⟨v, rfl, hv, hq, hle⟩ := wait_head hwn
      rw [show firstT wt 0 12 = (v : Int) from hfw]
      have hvp := HPOS.out v hv (by omega)
      obtain ⟨k1, k2⟩ := div_legal hvp hle
      obtain ⟨k, hk⟩ := Int.eq_ofNat_of_zero_le (show (0 : Int) ≤ s.L v / valence f.g v by omega)
      have hLv := HOK.out.1 v hv
      have hkL : s.L v / valence f.g v ≤ s.L v := Int.ediv_le_self _ (by omega)
      have HZ2 : Hid ((if (maxF : Int) < tot + k then none else stGo f.g f.q f.N (fu - 1) (tot + k) (fireK f.g v k s)) = z) := by
        show _ = _
        rw [← HZ.out]
        obtain ⟨m, hm⟩ : ∃ m, fu = m + 1 := ⟨fu - 1, by have := HT.out; have := HFU.out; omega⟩
        subst hm
        conv => rhs; unfold stGo
        rw [hwn]
        simp only [Int.toNat_natCast, hk, Nat.add_sub_cancel]
      have htd : (s.L v).tdiv (valence f.g v) = (k : Int) := by rw [Int.tdiv_eq_ediv_of_nonneg (by omega), hk]
      rw [hk] at k1 k2 hkL
      have hmf2 := HMF.out
      have hTT := HT.out
      have hk9 : (k : Int) ≤ 1000000000 := by omega
      have HK1 := hid k1
      have hfr := hid (fun (w1 : World) (h1 : PiI f w1 s.L s.T tot wt) => p_fire f w1 s.L s.T tot wt h1 v hv k (by omega) hk9 (fun u hu => by have := HOK.out.1 u hu; omega) (by have := HOK.out.2 v hv; omega) (by omega))
      have HOK2 := hid (okS_fireK HG.out HOK.out v k)
      have HS2 : Hid (((tot + k : Nat) : Int) = sumTo (fireK f.g v k s).T f.N) := by show _ = _; rw [sum_fire f.g s hv, ← HS.out]; omega
      have HW2 : Hid (WtOk f (fireK f.g v k s).L (fun u => if u < f.N then isUnst f.g f.q (fireK f.g v k s).L u else wt u)) := fun u hu => by
        show (if u < f.N then isUnst f.g f.q (fireK f.g v k s).L u else wt u) = _
        by_cases e : u < f.N
        · simp [e]
        · rw [if_neg e, HW.out u hu]; simp [e]
      obtain ⟨p0, _, _, p3, _, _⟩ := HP.out.cells
      have c1 := HP.out.leftAt v hv
      have c2 := HP.out.valsAt v hv
      have l0 := HP.out.blk.lt
      have l1 := (owns_lt HP.out.left).2
      have l2 := (owns_lt HP.out.vals).2
      rw [← HBE.out] at p0 p3 l0 hfr
      have hv0 : (0 : Int) ≤ (v : Int) := by omega
      have hv1 : (v : Int) < (f.N : Int) := by omega
      have hvn : ¬ valence f.g v = 0 := by omega
      have wq : IntKind.i64.wrap (k : Int) = (k : Int) := IntWalk.i64_in _ (by omega)
      clear hwn hfw hle k1 k2 hk hkL hLv hmf2 hTT hk9 hvp hq HZ HW
      generalize s.L v = xL at *
      generalize valence f.g v = yV at *
      go_wp2_with fail
      let S : World → Prop := fun w' => w'.cell? ⟨b, 0, none⟩ = some (.slice (some ⟨f.bd, 0, none⟩) f.N f.cd) ∧ w'.cell? ⟨b, 3, none⟩ = some (.slice (some ⟨f.bv, 0, none⟩) f.N f.N) ∧ w'.cell? ⟨f.bd, v, none⟩ = some (.int .i64 xL) ∧ w'.cell? ⟨f.bv, v, none⟩ = some (.int .i64 yV)
      (refine wp_region_text 17 [0,1,2,3,4,5,6,7,8,9,10,11,12,13,14,15,16] S (by kernel_rfl) (by kernel_rfl) (by intro _ _ d _ _ h; cases d <;> exact h) ?hS ?_; rotate_left; simp only [List.map_cons, List.map_nil, List.getD_cons_zero, List.getD_cons_succ, List.drop_succ_cons, List.drop_zero])
      case hS => exact ⟨p0, p3, c1, c2⟩
      (repeat (refine' wpSeq_take rfl _ (by rfl) ?_ ?_; rotate_left; focus (intro w' hS; (try dsimp only at hS); obtain ⟨s1, s2, s3, s4⟩ := hS; go_simp; (first | done | with_reducible rfl)); (try simp only [Act.put, List.setIfInBounds_toArray, List.set_cons_zero, List.set_cons_succ])))
      refine wpSeq_nil ?_
      clear S p0 p3 c1 c2 l0 l1 l2
      have HPd := hid HP.out.drew
      have HKd := hid (kept_trans HK.out (kept_below (p := fun _ => False) (Below.drew (Below.refl _ W3))) (fun _ h => h.elim))
      have HMs : Hid (totOf f.b W3 = tot) := by
        show _ = _
        unfold totOf
        rw [HP.out.cells.2.2.2.2.2]
        exact Int.toNat_natCast tot
      by_cases hm : (maxF : Int) < tot + k
      · have hmb : (1048576 : Int) < (tot : Int) + (k : Int) := by have := HMF.out; omega
        have HR : Hid (z = none) := by show _ = _; rw [← HZ2.out, if_pos hm]
        clear hm HZ2 HP HK
        go_wp2_with fail
        refine (hfr.out _ HPd.out).mono ?_
        rintro e w4 ⟨rfl, hP4, hK4⟩
        have HP4 := hid hP4
        have HK4 := hid (kept_trans HKd.out hK4 (fun _ h => by rw [← HBE.out]; exact h))
        obtain ⟨_, _, _, _, _, p5⟩ := hP4.cells
        have l0 := hP4.blk.lt
        rw [← HBE.out] at p5 l0
        clear hP4 hK4
        go_simp
        go_wp2_with fail
        go_ret
        refine ⟨fireK f.g v k s, tot + k, _, ?_, HK4.out, HW2.out, HS2.out, .inr ⟨HR.out, rfl⟩⟩
        rw [Int.natCast_add]
        exact HP4.out
      · have hmb : ¬ (1048576 : Int) < (tot : Int) + (k : Int) := by have := HMF.out; omega
        have HZ3 : Hid (stGo f.g f.q f.N (fu - 1) ((tot + k : Nat) : Int) (fireK f.g v k s) = z) := by show _ = _; rw [← HZ2.out, if_neg hm, Int.natCast_add]
        have HT2 : Hid (tot + k ≤ maxF) := by show _ ≤ _; omega
        have HF2 : Hid (maxF < fu - 1 + (tot + k)) := by show _ < _; have := HFU.out; have := HK1.out; omega
        clear hm HZ2 HP HK
        go_wp2_with fail
        refine (hfr.out _ HPd.out).mono ?_
        rintro e w4 ⟨rfl, hP4, hK4⟩
        have HP4 := hid hP4
        have HK4 := hid (kept_trans HKd.out hK4 (fun _ h => by rw [← HBE.out]; exact h))
        obtain ⟨_, _, _, _, _, p5⟩ := hP4.cells
        have l0 := hP4.blk.lt
        rw [← HBE.out] at p5 l0
        clear hP4 hK4
        go_simp
        go_wp2_with fail
        refine (hnx.out w4 _ _ _ _ HP4.out).mono ?_
        rintro e w5 ⟨rfl, rfl⟩
        go_simp
        go_wp2_with fail
        go_roundw
        case rel =>
          refine ⟨fireK f.g v k s, tot + k, fu - 1, _, rfl, ?_, HW2, HOK2, HS2, HT2, HF2, HZ3, HK4⟩
          rw [Int.natCast_add]
          exact HP4
        case measure =>
          have e1 := HMs.out
          have e2 : totOf f.b w4 = tot + k := by
            unfold totOf
            rw [HP4.out.cells.2.2.2.2.2]
            show ((tot : Int) + (k : Int)).toNat = _
            omega
          rw [e2, e1]
          have := HT2.out
          have := HK1.out
          omega

/-- What stabilizing leaves. -/
def RetStd (f : PFr) (z : Option St) (w : World) (e : Ending) (w' : World) : Prop :=
  ∃ (s : St) (tot : Nat) (wt : Nat → Bool), PiI f w' s.L s.T tot wt ∧ KeptB w w' (fun j => j = f.b ∨ j = f.bd ∨ j = f.bf) ∧ (tot : Int) = sumTo s.T f.N ∧
      ((z = some s ∧ e = .returned (.int .i64 (if 1048576 < s.L f.q then 11 else 0))) ∨ (z = none ∧ e = .returned (.int .i64 12)))

set_option maxRecDepth 100000 in
set_option maxHeartbeats 4000000 in
theorem p_settled (f : PFr) (w : World) (s0 : St) (tot0 : Nat) (wt0 : Nat → Bool) (h : PiI f w s0.L s0.T tot0 wt0) (hw0 : WtOk f s0.L wt0) (hok : okS f.N 1048576 tot0 s0) (hs0 : (tot0 : Int) = sumTo s0.T f.N) (ht0 : tot0 ≤ maxF)
    (hpos : ∀ v, v < f.N → v ≠ f.q → 0 < valence f.g v) (hqN : f.q < f.N) :
    Calls Try.prog 63 #[.pointer (some ⟨f.b, 0, none⟩)] w (RetStd f (stGo f.g f.q f.N (maxF + 1 - tot0) tot0 s0) w) := by
  have hst := hid (p_settle f w s0 tot0 wt0 h hw0 hok hs0 ht0 hpos)
  have HQ := hid hqN
  clear h hw0 hok hs0 ht0 hpos hqN
  generalize stGo f.g f.q f.N (maxF + 1 - tot0) tot0 s0 = z at *
  obtain ⟨b, hbe⟩ : ∃ b, b = f.b := ⟨_, rfl⟩
  have HBE := hid hbe
  rw [← hbe] at hst ⊢
  rw [hbe] at hst
  rw [← hbe] at hst
  clear hbe
  go_enter Try.func63, Try.ntmps63
  go_wp2_with fail
  refine hst.out.mono ?_
  rintro e w1 ⟨s, tot, wt, hP, hK, hW, hS, ⟨rfl, rfl, hT, hO⟩ | ⟨rfl, rfl⟩⟩
  · obtain ⟨p0, p1, _, _, _, _⟩ := hP.cells
    have c1 := hP.leftAt f.q HQ.out
    have l0 := hP.blk.lt
    have l1 := (owns_lt hP.left).2
    rw [← HBE.out] at p0 p1 l0
    have hq0 : (0 : Int) ≤ (f.q : Int) := by omega
    have hq1 : (f.q : Int) < (f.N : Int) := by have := HQ.out; omega
    have HP := hid hP
    have HK : Hid (KeptB w w1 (fun j => j = f.b ∨ j = f.bd ∨ j = f.bf)) := hK
    clear hP hK hW hT hO hst
    by_cases hx : 1048576 < s.L f.q
    · have HX : Hid ((if 1048576 < s.L f.q then (11 : Int) else 0) = 11) := if_pos hx
      generalize hxe : s.L f.q = x at c1 hx
      go_simp
      go_wp2
      go_quiet (fail)
      go_wp2
      go_ret
      exact ⟨s, tot, wt, HP.out.mono (below_dN (Below.refl _ _) _), kept_trans HK.out (kept_below (p := fun _ => False) (below_dN (Below.refl _ _) _)) (fun _ h => h.elim), hS, .inl ⟨rfl, by rw [HX.out]; rfl⟩⟩
    · have HX : Hid ((if 1048576 < s.L f.q then (11 : Int) else 0) = 0) := if_neg hx
      generalize hxe : s.L f.q = x at c1 hx
      go_simp
      go_wp2
      go_quiet (fail)
      go_wp2
      go_ret
      exact ⟨s, tot, wt, HP.out.mono (below_dN (Below.refl _ _) _), kept_trans HK.out (kept_below (p := fun _ => False) (below_dN (Below.refl _ _) _)) (fun _ h => h.elim), hS, .inl ⟨rfl, by rw [HX.out]; rfl⟩⟩
  · go_simp
    go_wp2
    go_ret
    exact ⟨s, tot, wt, hP, hK, hS, .inr ⟨rfl, rfl⟩⟩

end Go.Proofs.Ytlhbgainpeehoaa
