/-
  Contracts on digraphs: Check, Digraph, and the reference's.
-/
import Derived.Test.YtemmepgfngkgmaaGreatDoorN31
namespace Go.Proofs.YtemmepgfngkgmaaGreatDoor
open Go.RowKit
set_option linter.unusedVariables false
set_option linter.unusedSimpArgs false

theorem wit_vtx (n v : Int) : witB v 0 (n - 1) = vtx n v := by
  unfold witB vtx
  congr 1
  by_cases h : v ≤ n - 1 <;> simp [h] <;> omega
theorem two_new (w : World) (a b : Value) (T : TypeId) : (w.alloc (.cells #[a, b] T)).cell? ⟨w.heap.size, 0, none⟩ = some a ∧ (w.alloc (.cells #[a, b] T)).cell? ⟨w.heap.size, 1, none⟩ = some b := by
  have h := Blk.new w #[a, b] T
  exact ⟨(h.cell 0).trans rfl, (h.cell 1).trans rfl⟩

set_option maxRecDepth 100000 in
set_option maxHeartbeats 4000000 in
theorem n_CheckD (g : G) (gv : Value) (w : World) (hg : GrR w gv g) :
    Calls Tryz.prog 33 #[gv] w fun e w' => e = .returned (.int .i64 (dgErr g)) ∧ Below w.heap.size w w' := by
  have HG := hid hg
  obtain ⟨ev, rfl, hE⟩ := hg
  have HE := hid hE
  obtain ⟨a, cap, rfl, _⟩ := hE
  obtain ⟨z, HZ⟩ : ∃ z, Hid (z = dgErr g) := ⟨_, rfl⟩
  rw [← HZ.out]
  have hz := HZ.out
  unfold dgErr at hz
  have hgb := hid (Blk.new w #[.int .i64 g.n, .slice a g.es.length cap] 61)
  have HB0 := hid ((Below.refl w.heap.size w).alloc (Nat.le_refl _) (.cells #[.int .i64 g.n, .slice a g.es.length cap] 61))
  have HE0 := hid (HE.out.below HB0.out)
  have hwn := hid (fun w => n_within g.n 1 12 w)
  go_enter Tryz.func33, Tryz.ntmps33
  go_upto_region 1 with fail
  generalize w.alloc (.cells #[.int .i64 g.n, .slice a g.es.length cap] 61) = W0 at *
  have c0 : W0.cell? ⟨w.heap.size, 0, none⟩ = some (.int .i64 g.n) := (hgb.out.cell 0).trans rfl
  have hgl := hgb.out.lt
  by_cases hn : g.n < 1 ∨ 12 < g.n
  · rw [if_pos hn] at hz
    have hw : witB g.n 1 12 = false := by unfold witB; simp; omega
    rw [hw] at hwn
    clear hw hn
    go_wp2_with fail
    refine (hwn.out W0).mono ?_
    rintro e w1 ⟨rfl, rfl⟩
    dsimp only
    go_wp2_with fail
    go_ret
    exact ⟨ret_int hz.symm, HB0.out⟩
  rw [if_neg hn] at hz
  have HNN : Hid (1 ≤ g.n ∧ g.n ≤ 12) := by show _ ∧ _; omega
  have hw : witB g.n 1 12 = true := by unfold witB; simp; omega
  rw [hw] at hwn
  have HZ := hid hz.symm
  clear hw hn hz
  go_wp2_with fail
  refine (hwn.out W0).mono ?_
  rintro e w1 ⟨rfl, hw1⟩
  subst hw1
  clear hwn
  dsimp only
  go_upto_region 4 with fail
  have HL1 := hid (Blk.new W0 #[.int .i64 (-1), .int .i64 (-1)] 80)
  have HB1 := hid (HB0.out.alloc HB0.out.size (.cells #[.int .i64 (-1), .int .i64 (-1)] 80))
  have hgb1 := hid (hgb.out.alloc (.cells #[.int .i64 (-1), .int .i64 (-1)] 80))
  have HLW : Hid (w.heap.size < W0.heap.size) := hgb.out.lt
  have HE1 := hid (HE0.out.below ((Below.refl W0.heap.size W0).alloc (Nat.le_refl _) (.cells #[.int .i64 (-1), .int .i64 (-1)] 80)))
  generalize W0.alloc (.cells #[.int .i64 (-1), .int .i64 (-1)] 80) = W1 at *
  generalize W0.heap.size = l at *
  have c1 : W1.cell? ⟨w.heap.size, 1, none⟩ = some (.slice a g.es.length cap) := (hgb1.out.cell 1).trans rfl
  have hgl := hgb1.out.lt
  have hll := hid HL1.out.lt
  clear c0 hgb HE0 HB0
  go_wp2_with fail
  go_loopw [15] (fun i wr => ∃ k : Nat, k ≤ g.es.length ∧ i = .int .i64 k ∧ Hid (firstNZ (arcErr g) k (g.es.length - k) = z) ∧ Hid (Blk wr l #[.int .i64 (lastA g k), .int .i64 (lastB g k)] 80) ∧ Hid (Below l W1 wr))
    (fun i _ => g.es.length - (intOf i).toNat)
  case atStart => exact ⟨0, Nat.zero_le _, rfl, HZ, HL1, Below.refl _ _⟩
  case round =>
    clear HL1 HZ
    obtain ⟨k, hk, rfl, HZ, HL, HB⟩ := hrel
    obtain ⟨W2, rfl⟩ : ∃ W : World, W = wr := ⟨_, rfl⟩
    have hgbr := hgb1.out
    have HGB : Hid (Blk W2 w.heap.size #[.int .i64 g.n, .slice a g.es.length cap] 61) := by
      show W2.heap[_]? = _
      rw [HB.out.block _ HLW.out]
      exact hgb1.out
    have hBw : Hid (Below w.heap.size w W2) := HB1.out.trans (HB.out.mono (by have := HLW.out; omega))
    clear hgbr
    by_cases hlt : k < g.es.length
    · have hlt' : (k : Int) < (g.es.length : Int) := by omega
      have hk0 : (0 : Int) ≤ (k : Int) := by omega
      obtain ⟨a', cap', ea, _, _, _, hc⟩ := HE.out.below hBw.out
      injection ea with ea1 _ ea3
      subst ea1 ea3
      obtain ⟨b, off, rfl, hb, hc⟩ := hc.edge (by omega)
      obtain ⟨q1, q2, q3⟩ := hc k hlt
      have hS := hid (firstNZ_step (arcErr g) k g.es.length hlt)
      have hnA : Hid ((g.es[k]?.getD default).a = lastA g (k + 1)) := by show _ = _; simp [lastA]
      have hnB : Hid ((g.es[k]?.getD default).b = lastB g (k + 1)) := by show _ = _; simp [lastB]
      have hl0 : Hid (k = 0 → lastA g k = -1 ∧ lastB g k = -1) := by rintro rfl; exact ⟨rfl, rfl⟩
      have hl1 : Hid (k ≠ 0 → lastA g k = (g.es[k - 1]?.getD default).a ∧ lastB g k = (g.es[k - 1]?.getD default).b) := by intro h; unfold lastA lastB; rw [if_neg h, if_neg h]; exact ⟨rfl, rfl⟩
      have hAE := hid (show arcErr g k = _ from by unfold arcErr; exact rfl)
      generalize lastA g k = la at *
      generalize lastB g k = lb at *
      generalize g.es[k]?.getD default = x at *
      have HCP := hid (cmpP_ge la lb x.a x.b)
      have HWA := hid (fun w => n_within x.a 0 (g.n - 1) w)
      have HWB := hid (fun w => n_within x.b 0 (g.n - 1) w)
      have HWM := hid (fun w => n_within x.m 1 50 w)
      rw [wit_vtx] at HWA HWB
      have wn : IntKind.i64.wrap (g.n - 1) = g.n - 1 := IntWalk.i64_in _ (by have := HNN.out; omega)
      clear hc
      go_upto_region 7 with fail
      have HX := hid (Blk.new W2 #[.int .i64 x.a, .int .i64 x.b, .int .i64 x.m] 147)
      have HB3 := hid (HB.out.alloc (show l ≤ W2.heap.size from Nat.le_of_lt HL.out.lt) (.cells #[.int .i64 x.a, .int .i64 x.b, .int .i64 x.m] 147))
      have HL3 := hid (HL.out.alloc (.cells #[.int .i64 x.a, .int .i64 x.b, .int .i64 x.m] 147))
      have HGB3 := hid (HGB.out.alloc (.cells #[.int .i64 x.a, .int .i64 x.b, .int .i64 x.m] 147))
      have hBw3 := hid (hBw.out.alloc hBw.out.size (.cells #[.int .i64 x.a, .int .i64 x.b, .int .i64 x.m] 147))
      generalize W2.alloc (.cells #[.int .i64 x.a, .int .i64 x.b, .int .i64 x.m] 147) = W3 at *
      generalize W2.heap.size = X at *
      have x0 : W3.cell? ⟨X, 0, none⟩ = some (.int .i64 x.a) := (HX.out.cell 0).trans rfl
      have x1 : W3.cell? ⟨X, 1, none⟩ = some (.int .i64 x.b) := (HX.out.cell 1).trans rfl
      have x2 : W3.cell? ⟨X, 2, none⟩ = some (.int .i64 x.m) := (HX.out.cell 2).trans rfl
      have xl := HX.out.lt
      have e0 : W3.cell? ⟨w.heap.size, 0, none⟩ = some (.int .i64 g.n) := (HGB3.out.cell 0).trans rfl
      have el := HGB3.out.lt
      clear q1 q2 q3 hb HB HL HGB hBw HX hgl c1
      cases hva : vtx g.n x.a with
      | false =>
        have HR : Hid (z = 2) := by
          show _ = _
          rw [← HZ.out, hS.out, if_pos (by rw [hAE.out, hva]; simp), hAE.out, hva]; simp
        rw [hva] at HWA
        clear hva
        go_wp2_with fail
        refine (HWA.out W3).mono ?_
        rintro e w4 ⟨rfl, rfl⟩
        dsimp only
        go_wp2_with fail
        go_ret
        exact ⟨ret_int HR.out.symm, hBw3.out⟩
      | true =>
        rw [hva] at HWA
        cases hvb : vtx g.n x.b with
        | false =>
          have HR : Hid (z = 2) := by
            show _ = _
            rw [← HZ.out, hS.out, if_pos (by rw [hAE.out, hva, hvb]; simp), hAE.out, hva, hvb]; simp
          rw [hvb] at HWB
          clear hva hvb
          go_wp2_with fail
          refine (HWA.out W3).mono ?_
          rintro e w4 ⟨rfl, hw4⟩
          subst hw4
          dsimp only
          go_wp2_with fail
          refine (HWB.out _).mono ?_
          rintro e w4 ⟨rfl, hw4⟩
          subst hw4
          dsimp only
          go_wp2_with fail
          go_ret
          exact ⟨ret_int HR.out.symm, hBw3.out⟩
        | true =>
          rw [hvb] at HWB
          have HV := hid (And.intro hva hvb)
          clear hva hvb
          go_wp2_with fail
          refine (HWA.out W3).mono ?_
          rintro e w4 ⟨rfl, hw4⟩
          subst hw4
          dsimp only
          go_wp2_with fail
          refine (HWB.out _).mono ?_
          rintro e w4 ⟨rfl, hw4⟩
          subst hw4
          dsimp only
          go_wp2_with fail
          refine (HWM.out _).mono ?_
          rintro e w4 ⟨rfl, hw4⟩
          subst hw4
          dsimp only
          clear HWA HWB HWM
          cases hm : witB x.m 1 50 with
          | false =>
            have HR : Hid (z = 2) := by
              have hm' : x.m < 1 ∨ 50 < x.m := by unfold witB at hm; simp at hm; omega
              show _ = _
              rw [← HZ.out, hS.out, if_pos (by rw [hAE.out, HV.out.1, HV.out.2]; simp; rw [if_pos hm']; decide), hAE.out, HV.out.1, HV.out.2]
              simp
              intro h1 h2
              omega
            clear hm
            go_wp2_with fail
            go_ret
            exact ⟨ret_int HR.out.symm, hBw3.out⟩
          | true =>
            have HM : Hid (1 ≤ x.m ∧ x.m ≤ 50) := by unfold witB at hm; simp at hm; exact hm
            have HCM := hid (fun w => n_compare la lb x.a x.b w)
            generalize hcv : cmpP la lb x.a x.b = cv at *
            clear hm hcv
            go_upto_region 10 with fail
            have HAE2 : Hid (arcErr g k = if 0 < k ∧ (x.a < (g.es[k - 1]?.getD default).a ∨ x.a = (g.es[k - 1]?.getD default).a ∧ x.b ≤ (g.es[k - 1]?.getD default).b) then 9 else 0) := by
              have h := hAE.out
              rw [if_neg (by rw [HV.out.1, HV.out.2]; simp; have := HM.out; omega)] at h
              exact h
            have HXA : Hid (0 ≤ x.a) := by have h := HV.out.1; unfold vtx at h; simp at h; exact h.1
            have HXL : Hid (X < W3.heap.size) := xl
            have hls := Nat.le_of_lt HL3.out.lt
            have HN4 := hid (Blk.new W3 #[.int .i64 x.a, .int .i64 x.b] 80)
            have HL4 := hid (HL3.out.alloc (.cells #[.int .i64 x.a, .int .i64 x.b] 80))
            have HB4 := hid (HB3.out.alloc hls (.cells #[.int .i64 x.a, .int .i64 x.b] 80))
            have hBw4 := hid (hBw3.out.alloc hBw3.out.size (.cells #[.int .i64 x.a, .int .i64 x.b] 80))
            clear hls x0 x1 x2 xl e0 el HB3 HL3 HGB3 hBw3
            generalize W3.alloc (.cells #[.int .i64 x.a, .int .i64 x.b] 80) = W4 at *
            generalize W3.heap.size = Y at *
            have n0 : W4.cell? ⟨Y, 0, none⟩ = some (.int .i64 x.a) := (HN4.out.cell 0).trans rfl
            have n1 : W4.cell? ⟨Y, 1, none⟩ = some (.int .i64 x.b) := (HN4.out.cell 1).trans rfl
            have nl := HN4.out.lt
            have l0 : W4.cell? ⟨l, 0, none⟩ = some (.int .i64 la) := (HL4.out.cell 0).trans rfl
            have l1 : W4.cell? ⟨l, 1, none⟩ = some (.int .i64 lb) := (HL4.out.cell 1).trans rfl
            have ll := HL4.out.lt
            go_wp2_with fail
            refine (HCM.out W4).mono ?_
            rintro e w5 ⟨rfl, hB5⟩
            have HL5 := hid (HL4.out.below hB5)
            have HN5 := hid (HN4.out.below hB5)
            have HB5 := hid (HB4.out.trans (hB5.mono (Nat.le_of_lt ll)))
            have hBw5 := hid (up hBw4.out hB5)
            clear hB5 n0 n1 nl l0 l1 ll HL4 HN4 HB4 hBw4
            dsimp only
            by_cases hcv : 0 ≤ cv
            · have HR : Hid (z = 9) := by
                have hk1 : k ≠ 0 := fun e => by
                  obtain ⟨h1, h2⟩ := hl0.out e
                  have := HCP.out
                  have := HXA.out
                  omega
                obtain ⟨h1, h2⟩ := hl1.out hk1
                have h3 := HCP.out
                show _ = _
                have h4 : arcErr g k = 9 := by rw [HAE2.out, if_pos ⟨by omega, by omega⟩]
                rw [← HZ.out, hS.out, if_pos (by rw [h4]; decide), h4]
              go_wp2_with fail
              go_ret
              exact ⟨ret_int HR.out.symm, hBw5.out⟩
            · have HZ9 : Hid (firstNZ (arcErr g) (k + 1) (g.es.length - (k + 1)) = z) := by
                have h4 : arcErr g k = 0 := by
                  rw [HAE2.out, if_neg]
                  rintro ⟨h5, h6⟩
                  obtain ⟨h1, h2⟩ := hl1.out (by omega)
                  have h3 := HCP.out
                  omega
                have h5 := hS.out
                rw [if_neg (by rw [h4]; simp)] at h5
                show _ = _
                rw [← h5]
                exact HZ.out
              have n0 : w5.cell? ⟨Y, 0, none⟩ = some (.int .i64 x.a) := (HN5.out.cell 0).trans rfl
              have n1 : w5.cell? ⟨Y, 1, none⟩ = some (.int .i64 x.b) := (HN5.out.cell 1).trans rfl
              have nl := HN5.out.lt
              have l0 : w5.cell? ⟨l, 0, none⟩ = some (.int .i64 la) := (HL5.out.cell 0).trans rfl
              have l1 : w5.cell? ⟨l, 1, none⟩ = some (.int .i64 lb) := (HL5.out.cell 1).trans rfl
              have ll := HL5.out.lt
              have f0 := HL5.out.frozen 0
              have f1 := HL5.out.frozen 1
              go_wp2_with fail
              have HL6 := hid ((HL5.out.set 0 (.int .i64 x.a)).set 1 (.int .i64 x.b))
              go_roundw
              case rel =>
                refine ⟨k + 1, by omega, by go_num, HZ9, ?_, ?_⟩
                · show Blk _ _ _ _
                  rw [← hnA.out, ← hnB.out]
                  exact HL6.out
                · exact (HB5.out.setCell (Nat.le_refl _) _).setCell (Nat.le_refl _) _
              case measure => simp [intOf]; omega
    · obtain rfl : k = g.es.length := by omega
      have hlt' : ¬ (g.es.length : Int) < (g.es.length : Int) := by omega
      have hz := HZ.out
      rw [Nat.sub_self] at hz
      have HZ0 : Hid (z = 0) := hz.symm
      clear hz
      go_wp2_with fail
      go_ret
      exact ⟨ret_int HZ0.out.symm, hBw.out⟩

end Go.Proofs.YtemmepgfngkgmaaGreatDoor
