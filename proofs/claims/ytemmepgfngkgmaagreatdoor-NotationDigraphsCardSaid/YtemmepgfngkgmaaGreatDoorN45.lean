/-
  The reference on digraphs: less, Check.
-/
import Derived.Test.YtemmepgfngkgmaaGreatDoorN44
namespace Go.Proofs.YtemmepgfngkgmaaGreatDoor
open Go.RowKit
set_option linter.unusedVariables false
set_option linter.unusedSimpArgs false

def lessB (a b c d : Int) : Bool := decide (a < c) || (decide (a = c) && decide (b < d))
theorem q_less (a b c d : Int) (w : World) : Calls Tryz.prog 89 #[.int .i64 a, .int .i64 b, .int .i64 c, .int .i64 d] w fun e w' => e = .returned (.bool (lessB a b c d)) ∧ w = w' := by
  unfold lessB
  by_cases h1 : a < c
  · rw [decide_eq_true h1, Bool.true_or]
    go_enter Tryz.func89, Tryz.ntmps89
    go_wp2_with fail
    go_ret
    exact ⟨rfl, rfl⟩
  · rw [decide_eq_false h1, Bool.false_or]
    by_cases h2 : a = c
    · have h2b : (a == c) = true := by simpa using h2
      rw [decide_eq_true h2, Bool.true_and]
      clear h2
      by_cases h3 : b < d
      · rw [decide_eq_true h3]
        go_enter Tryz.func89, Tryz.ntmps89
        go_wp2_with fail
        go_ret
        exact ⟨rfl, rfl⟩
      · rw [decide_eq_false h3]
        go_enter Tryz.func89, Tryz.ntmps89
        go_wp2_with fail
        go_ret
        exact ⟨rfl, rfl⟩
    · have h2b : (a == c) = false := by simpa using h2
      rw [decide_eq_false h2, Bool.false_and]
      clear h2
      go_enter Tryz.func89, Tryz.ntmps89
      go_wp2_with fail
      go_ret
      exact ⟨rfl, rfl⟩

set_option maxRecDepth 100000 in
set_option maxHeartbeats 8000000 in
theorem q_CheckD (g : G) (gv : Value) (w : World) (hg : GrR w gv g) (hln : g.es.length ≤ 1000000) :
    Calls Tryz.prog 34 #[gv] w fun e w' => e = .returned (.int .i64 (dgErr g)) ∧ Below w.heap.size w w' := by
  obtain ⟨ev, rfl, hE⟩ := hg
  have HE := hid hE
  obtain ⟨a, cap, rfl, _⟩ := hE
  obtain ⟨z, HZ⟩ : ∃ z, Hid (z = dgErr g) := ⟨_, rfl⟩
  rw [← HZ.out]
  have hz := HZ.out
  unfold dgErr at hz
  have hgb := hid (Blk.new w #[.int .i64 g.n, .slice a g.es.length cap] 61)
  have HB0 := hid ((Below.refl w.heap.size w).alloc (Nat.le_refl _) (.cells #[.int .i64 g.n, .slice a g.es.length cap] 61))
  have HE0 := hid (HE.out.below HB0.out)
  go_enter Tryz.func34, Tryz.ntmps34
  go_upto_region 1 with fail
  generalize w.alloc (.cells #[.int .i64 g.n, .slice a g.es.length cap] 61) = W0 at *
  have c0 : W0.cell? ⟨w.heap.size, 0, none⟩ = some (.int .i64 g.n) := (hgb.out.cell 0).trans rfl
  have hgl := hgb.out.lt
  by_cases hn1 : g.n < 1
  · rw [if_pos (.inl hn1)] at hz
    have HZ2 := hid hz
    clear hz
    go_wp2_with fail
    go_ret
    exact ⟨ret_int HZ2.out.symm, HB0.out⟩
  by_cases hn2 : 12 < g.n
  · rw [if_pos (.inr hn2)] at hz
    have HZ2 := hid hz
    clear hz
    go_wp2_with fail
    go_ret
    exact ⟨ret_int HZ2.out.symm, HB0.out⟩
  rw [if_neg (by omega)] at hz
  have HNN : Hid (1 ≤ g.n ∧ g.n ≤ 12) := by show _ ∧ _; omega
  have HZ := hid hz.symm
  clear hz
  go_wp2_with fail
  clear c0 hgl hn1 hn2
  go_loopw [3] (fun i wr => ∃ k : Nat, k ≤ g.es.length ∧ i = .int .i64 k ∧ Hid (firstNZ (arcErr g) k (g.es.length - k) = z) ∧ Hid (Below W0.heap.size W0 wr)) (fun i _ => g.es.length - (intOf i).toNat)
  case atStart => exact ⟨0, Nat.zero_le _, rfl, HZ, Below.refl _ _⟩
  case round =>
    clear HZ
    obtain ⟨k, hk, rfl, HZ, HB⟩ := hrel
    obtain ⟨W2, rfl⟩ : ∃ W : World, W = wr := ⟨_, rfl⟩
    have hGB := hgb.out.below HB.out
    have hBw : Hid (Below w.heap.size w W2) := up HB0.out HB.out
    have c1 : W2.cell? ⟨w.heap.size, 1, none⟩ = some (.slice a g.es.length cap) := (hGB.cell 1).trans rfl
    have hgl := hGB.lt
    by_cases hlt : k < g.es.length
    · have hlt' : (k : Int) < (g.es.length : Int) := by omega
      have hk0 : (0 : Int) ≤ (k : Int) := by omega
      obtain ⟨a', cap', ea, _, _, _, hc⟩ := HE0.out.below HB.out
      injection ea with ea1 _ ea3
      subst ea1 ea3
      obtain ⟨b, off, rfl, hb, hc⟩ := hc.edge (by omega)
      obtain ⟨q1, q2, q3⟩ := hc k hlt
      have hS := hid (firstNZ_step (arcErr g) k g.es.length hlt)
      have hAE := hid (show arcErr g k = _ from by unfold arcErr; exact rfl)
      have hprev : Hid (∀ j, k = j + 1 → W2.cell? ⟨b, off + j * 3, none⟩ = some (.int .i64 (g.es[k - 1]?.getD default).a) ∧ W2.cell? ⟨b, off + j * 3 + 1, none⟩ = some (.int .i64 (g.es[k - 1]?.getD default).b)) := fun j hj => by
        obtain ⟨p1, p2, _⟩ := hc j (by omega)
        rw [hj, Nat.add_sub_cancel]
        exact ⟨p1, p2⟩
      generalize g.es[k]?.getD default = x at *
      generalize g.es[k - 1]?.getD default = y at *
      clear hc
      go_upto_region 7 with fail
      have HX := hid (Blk.new W2 #[.int .i64 x.a, .int .i64 x.b, .int .i64 x.m] 147)
      have hst := (Below.refl W2.heap.size W2).alloc (Nat.le_refl _) (.cells #[.int .i64 x.a, .int .i64 x.b, .int .i64 x.m] 147)
      have HB3 := hid (up HB.out hst)
      have HGB3 := hid (hGB.below hst)
      have hBw3 := hid (up hBw.out hst)
      have hprev := hid (fun j hj => And.intro ((hst.cell (p := ⟨b, off + j * 3, none⟩) hb).trans (hprev.out j hj).1) ((hst.cell (p := ⟨b, off + j * 3 + 1, none⟩) hb).trans (hprev.out j hj).2))
      have hb3 : Hid (b < (W2.alloc (.cells #[.int .i64 x.a, .int .i64 x.b, .int .i64 x.m] 147)).heap.size) := Nat.lt_of_lt_of_le hb hst.size
      clear hst hGB
      generalize W2.alloc (.cells #[.int .i64 x.a, .int .i64 x.b, .int .i64 x.m] 147) = W3 at *
      generalize W2.heap.size = X at *
      have x0 : W3.cell? ⟨X, 0, none⟩ = some (.int .i64 x.a) := (HX.out.cell 0).trans rfl
      have x1 : W3.cell? ⟨X, 1, none⟩ = some (.int .i64 x.b) := (HX.out.cell 1).trans rfl
      have x2 : W3.cell? ⟨X, 2, none⟩ = some (.int .i64 x.m) := (HX.out.cell 2).trans rfl
      have xl := HX.out.lt
      have e0 : W3.cell? ⟨w.heap.size, 0, none⟩ = some (.int .i64 g.n) := (HGB3.out.cell 0).trans rfl
      have el := HGB3.out.lt
      clear q1 q2 q3 hb HB hBw hgl c1
      have HR2 : Hid ((vtx g.n x.a = false ∨ vtx g.n x.b = false ∨ x.m < 1 ∨ 50 < x.m) → z = 2) := fun hbad => by
        have h4 : arcErr g k = 2 := by
          rw [hAE.out, if_pos]
          rcases hbad with h | h | h | h <;> simp [h]
        rw [← HZ.out, hS.out, if_pos (by rw [h4]; decide), h4]
      by_cases h1 : x.a < 0
      · have HR := hid (HR2.out (.inl (by unfold vtx; simp; omega)))
        clear HR2
        go_wp2_with fail
        go_ret
        exact ⟨ret_int HR.out.symm, hBw3.out⟩
      by_cases h2 : g.n ≤ x.a
      · have HR := hid (HR2.out (.inl (by unfold vtx; simp; omega)))
        clear HR2
        go_wp2_with fail
        go_ret
        exact ⟨ret_int HR.out.symm, hBw3.out⟩
      by_cases h3 : x.b < 0
      · have HR := hid (HR2.out (.inr (.inl (by unfold vtx; simp; omega))))
        clear HR2
        go_wp2_with fail
        go_ret
        exact ⟨ret_int HR.out.symm, hBw3.out⟩
      by_cases h4 : g.n ≤ x.b
      · have HR := hid (HR2.out (.inr (.inl (by unfold vtx; simp; omega))))
        clear HR2
        go_wp2_with fail
        go_ret
        exact ⟨ret_int HR.out.symm, hBw3.out⟩
      by_cases h5 : x.m < 1
      · have HR := hid (HR2.out (.inr (.inr (.inl h5))))
        clear HR2
        go_wp2_with fail
        go_ret
        exact ⟨ret_int HR.out.symm, hBw3.out⟩
      by_cases h6 : 50 < x.m
      · have HR := hid (HR2.out (.inr (.inr (.inr h6))))
        clear HR2
        go_wp2_with fail
        go_ret
        exact ⟨ret_int HR.out.symm, hBw3.out⟩
      have HV : Hid (vtx g.n x.a = true ∧ vtx g.n x.b = true ∧ 1 ≤ x.m ∧ x.m ≤ 50) := by
        refine ⟨?_, ?_, ?_, ?_⟩
        · unfold vtx; simp; omega
        · unfold vtx; simp; omega
        · omega
        · omega
      have HAE2 : Hid (arcErr g k = if 0 < k ∧ (x.a < y.a ∨ x.a = y.a ∧ x.b ≤ y.b) then 9 else 0) := by
        have h := hAE.out
        rw [if_neg (by rw [HV.out.1, HV.out.2.1]; simp; have := HV.out.2.2; omega)] at h
        exact h
      have HNX : Hid (arcErr g k = 0 → firstNZ (arcErr g) (k + 1) (g.es.length - (k + 1)) = z) := fun h4 => by
        have h5 := hS.out
        rw [if_neg (by rw [h4]; simp)] at h5
        rw [← h5]
        exact HZ.out
      have HR9 : Hid (arcErr g k = 9 → z = 9) := fun h4 => by
        rw [← HZ.out, hS.out, if_pos (by rw [h4]; decide), h4]
      go_upto_region 9 with fail
      have hcl : Hid (∀ W', Below W3.heap.size W3 W' → W'.cell? ⟨X, 0, none⟩ = some (.int .i64 x.a) ∧ W'.cell? ⟨X, 1, none⟩ = some (.int .i64 x.b) ∧ W'.cell? ⟨w.heap.size, 1, none⟩ = some (.slice (some ⟨b, off, none⟩) g.es.length cap)) := fun W' hB =>
        ⟨(hB.cell (p := ⟨X, 0, none⟩) xl).trans x0, (hB.cell (p := ⟨X, 1, none⟩) xl).trans x1, (((HGB3.out.below hB).cell 1).trans rfl)⟩
      by_cases hk1 : k = 0
      · have HNZ := hid (HNX.out (by rw [HAE2.out, if_neg (by omega)]))
        have hkn : ¬ 0 < k := by omega
        have hkI : ¬ (0 : Int) < (k : Int) := by omega
        clear x0 x1 x2 e0
        let S : World → Prop := fun W' => Hid (Below W3.heap.size W3 W')
        (refine wp_region_text 23 [0,1,2,3,4,5,6,7,8,9,10,11,12,13,14,15,16,17,18,19,20,21,22] S (by kernel_rfl) (by kernel_rfl) (by intro _ _ d _ _ h; cases d <;> exact h) ?hS ?_; rotate_left; simp only [List.map_cons, List.map_nil, List.getD_cons_zero, List.getD_cons_succ, List.drop_succ_cons, List.drop_zero])
        case hS => exact Below.drew (Below.refl _ _)
        (repeat ((refine' wpSeq_take rfl _ (by rfl) ?_ ?_; rotate_left; focus (intro w' hS; (try dsimp only at hS); obtain ⟨s1, s2, s3⟩ := hcl.out _ hS.out; go_simp; (first | done | with_reducible rfl)); (try simp only [Act.put, List.setIfInBounds_toArray, List.set_cons_zero, List.set_cons_succ])); (try simp only [Act.put, List.setIfInBounds_toArray, List.set_cons_zero, List.set_cons_succ])))
        (repeat (refine wpSeq_skip (by rfl) ?_; (try simp only [Act.put, List.setIfInBounds_toArray, List.set_cons_zero, List.set_cons_succ])))
        refine wpSeq_nil ?_
        clear S
        go_wp2_with fail
        go_roundw
        case rel => exact ⟨k + 1, by omega, by go_num, HNZ, Below.drew HB3.out⟩
        case measure => simp [intOf]; omega
      · obtain ⟨j, hj⟩ : ∃ j, k = j + 1 := ⟨k - 1, by omega⟩
        have hkn : 0 < k := by omega
        have hkI : (0 : Int) < (k : Int) := by omega
        have wj : IntKind.i64.wrap ((k : Int) - 1) = (j : Int) := by rw [IntWalk.i64_in _ (by omega)]; omega
        have hjI : (j : Int) < (g.es.length : Int) := by omega
        have hj0 : (0 : Int) ≤ (j : Int) := by omega
        obtain ⟨y0, y1⟩ := hprev.out j hj
        have hcl2 : Hid (∀ W', Below W3.heap.size W3 W' → W'.cell? ⟨b, off + j * 3, none⟩ = some (.int .i64 y.a) ∧ W'.cell? ⟨b, off + j * 3 + 1, none⟩ = some (.int .i64 y.b)) := fun W' hB => ⟨(hB.cell (p := ⟨b, off + j * 3, none⟩) hb3.out).trans y0, (hB.cell (p := ⟨b, off + j * 3 + 1, none⟩) hb3.out).trans y1⟩
        have HLS := hid (fun w => q_less y.a y.b x.a x.b w)
        have HLB : Hid (lessB y.a y.b x.a x.b = true → arcErr g k = 0) := fun h => by
          rw [HAE2.out, if_neg]
          unfold lessB at h
          simp at h
          omega
        have HLB2 : Hid (lessB y.a y.b x.a x.b = false → arcErr g k = 9) := fun h => by
          rw [HAE2.out, if_pos]
          unfold lessB at h
          simp at h
          refine ⟨by omega, by omega⟩
        generalize lessB y.a y.b x.a x.b = bl at *
        clear x0 x1 x2 e0 y0 y1 hj hk1
        let S : World → Prop := fun W' => Hid (Below W3.heap.size W3 W')
        (refine wp_region_text 23 [0,1,2,3,4,5,6,7,8,9,10,11,12,13,14,15,16,17,18,19,20,21,22] S (by kernel_rfl) (by kernel_rfl) (by intro _ _ d _ _ h; cases d <;> exact h) ?hS ?_; rotate_left; simp only [List.map_cons, List.map_nil, List.getD_cons_zero, List.getD_cons_succ, List.drop_succ_cons, List.drop_zero])
        case hS => exact Below.drew (Below.refl _ _)
        (repeat ((refine' wpSeq_take rfl _ (by rfl) ?_ ?_; rotate_left; focus (intro w' hS; (try dsimp only at hS); obtain ⟨s1, s2, s3⟩ := hcl.out _ hS.out; obtain ⟨s4, s5⟩ := hcl2.out _ hS.out; go_simp; (first | done | with_reducible rfl)); (try simp only [Act.put, List.setIfInBounds_toArray, List.set_cons_zero, List.set_cons_succ])); (try simp only [Act.put, List.setIfInBounds_toArray, List.set_cons_zero, List.set_cons_succ])))
        (refine wpSeq_call rfl (by rfl) (fun K hK => ?_); go_simp; refine ((HLS.out _)).mono ?_; rintro e w5 ⟨rfl, rfl⟩; refine hK _ _ ((Below.drew (Below.refl W3.heap.size W3))) ?_; clear hK K; (try simp only [Act.put, List.setIfInBounds_toArray, List.set_cons_zero, List.set_cons_succ]))
        cases bl with
        | true =>
          (repeat ((refine' wpSeq_take rfl _ (by rfl) ?_ ?_; rotate_left; focus (intro w' hS; (try dsimp only at hS); have s1 := hS; go_simp; (first | done | with_reducible rfl)); (try simp only [Act.put, List.setIfInBounds_toArray, List.set_cons_zero, List.set_cons_succ])); (try simp only [Act.put, List.setIfInBounds_toArray, List.set_cons_zero, List.set_cons_succ])))
          refine wpSeq_nil ?_
          clear S
          have HNZ := hid (HNX.out (HLB.out rfl))
          go_wp2_with fail
          go_roundw
          case rel => exact ⟨k + 1, by omega, by go_num, HNZ, Below.drew HB3.out⟩
          case measure => simp [intOf]; omega
        | false =>
          (repeat ((refine' wpSeq_take rfl _ (by rfl) ?_ ?_; rotate_left; focus (intro w' hS; (try dsimp only at hS); have s1 := hS; go_simp; (first | done | with_reducible rfl)); (try simp only [Act.put, List.setIfInBounds_toArray, List.set_cons_zero, List.set_cons_succ])); (try simp only [Act.put, List.setIfInBounds_toArray, List.set_cons_zero, List.set_cons_succ])))
          refine wpSeq_nil ?_
          clear S
          have HNZ := hid (HR9.out (HLB2.out rfl))
          go_wp2_with fail
          go_ret
          exact ⟨ret_int HNZ.out.symm, Below.drew hBw3.out⟩
    · obtain rfl : k = g.es.length := by omega
      have hlt' : ¬ (g.es.length : Int) < (g.es.length : Int) := by omega
      have hz := HZ.out
      rw [Nat.sub_self] at hz
      have HZ0 : Hid (z = 0) := hz.symm
      clear hz
      go_wp2_with fail
      go_ret
      exact ⟨ret_int HZ0.out.symm, hBw.out⟩

end Go.Proofs.YtemmepgfngkgmaaGreatDoor
