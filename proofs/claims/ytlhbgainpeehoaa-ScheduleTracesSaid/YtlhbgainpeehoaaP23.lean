/-
  Contracts of the law's own functions: events, few; the walks of ScheduleChecks and ScheduleSettles.
-/
import Derived.Test.YtlhbgainpeehoaaP22
import Derived.Test.YtlhbgainpeehoaaR21c
namespace Go.Proofs.Ytlhbgainpeehoaa
open Go.RowKit

theorem Try.underREv : Try.prog.underlying 39 = some (.slice 89) := by kernel_rfl
theorem Try.infoREv : (Try.prog.info? 89).map (fun i => (i.zero, i.size, i.bytes)) = some (some (.agg #[.int .i64 0, .int .i64 0]), 2, 16) := by kernel_rfl
theorem pairs_news (w : World) (x y : Int) (e : TypeId) (j : Nat) (u : Value) (h : [Value.int .i64 x, Value.int .i64 y][j]? = some u) : (w.alloc (.cells #[.int .i64 x, .int .i64 y] e)).cell? ((⟨w.heap.size, 0, none⟩ : Addr).add j) = some u := by
  have e1 : (⟨w.heap.size, 0, none⟩ : Addr).add j = ⟨w.heap.size, j, none⟩ := by unfold Addr.add; split <;> simp_all
  rw [e1, World.cell?_alloc_new]; simpa using h

set_option maxRecDepth 100000 in
set_option maxHeartbeats 1000000 in
theorem l_events (l : List (Int × Int)) (lv : Value) (w : World) (hl : PairsR w lv l) :
    Calls Try.prog 16 #[lv] w fun e w' => ∃ v, e = .returned v ∧ PairsR w' v l ∧ Below w.heap.size w w' := by
  obtain ⟨a, cap, rfl, hcap, hcm, hlen, hc⟩ := hl
  obtain ⟨i0, hi, hz0, hz1, hz2⟩ := info_parts Try.infoREv
  go_enter Try.func16, Try.ntmps16
  go_wp2
  go_loopw [3, 8] (fun t i wr => ∃ k : Nat, k ≤ l.length ∧ i = .int .i64 k ∧ wr.ownsRow w.heap.size 89 2 t k (pairCells (l.take k)) ∧ Below w.heap.size w wr)
    (fun _ i _ => l.length - (intOf i).toNat)
  case atStart => exact ⟨0, Nat.zero_le _, rfl, World.ownsRow_nil _ _ _ _, Below.refl _ _⟩
  case round =>
    obtain ⟨k, hkn, rfl, hown, hB⟩ := hrel
    by_cases hlt : k < l.length
    · obtain ⟨b', off', rfl, hb', hcc⟩ := (hc.below hB).pair (by omega)
      obtain ⟨c1, c2⟩ := hcc k hlt
      have hst := hid (take_step l k hlt)
      have hdf : Hid (l[k]?.getD default = l[k]?.getD (0, 0)) := rfl
      rw [hdf.out] at hst
      have hlt' : (k : Int) < (l.length : Int) := by omega
      have hk0 : (0 : Int) ≤ (k : Int) := by omega
      clear hcc hc hdf
      generalize l[k]?.getD (0, 0) = x at *
      obtain ⟨kd, vl⟩ := x
      dsimp only at c1 c2
      have hs := hB.size
      obtain ⟨W1, hW1⟩ : ∃ W : World, W = wr.alloc (.cells #[.int .i64 kd, .int .i64 vl] 64) := ⟨_, rfl⟩
      have hB1 : Below wr.heap.size wr W1 := by rw [hW1]; exact (Below.refl _ _).alloc (Nat.le_refl _) _
      have e0 : W1.cell? ⟨wr.heap.size, 0, none⟩ = some (.int .i64 kd) := by rw [hW1]; simp
      have e1 : W1.cell? ⟨wr.heap.size, 1, none⟩ = some (.int .i64 vl) := by rw [hW1]; simp
      have hlw : wr.heap.size < W1.heap.size := by rw [hW1]; simp
      have ho1 := owns_below hown hB1
      have hb1 : Below w.heap.size w W1 := hB.trans (hB1.mono hs)
      have hs1 := hb1.size
      go_upto_region 5 with fail
      rw [← hW1]
      clear hW1 hown
      have HO := hid ho1
      have HB := hid hb1
      clear ho1 hb1 hB1
      go_wp2_with (at_builtin; refine wpList_append_own _ rfl (.tmp 12) (.tmp 14) 39 rfl w.heap.size 89 i0 (.agg #[.int .i64 0, .int .i64 0]) 2 16 Try.underREv hi hz0 hz1 hz2 rfl (by decide) _ k _ rfl (HO.out.alloc _) ⟨W1.heap.size, 0, none⟩ 1 1 [.int .i64 kd, .int .i64 vl] rfl rfl (fun j u h => pairs_news W1 kd vl _ j u h) (by simp [Value.oneCell']) (by unfold maxLen; omega) (by omega) (by simp; omega) ?_; intro v' w2 hown2 hgr2 _; have HO2 := hid hown2; have HG := hid hgr2; clear hown2 hgr2)
      go_roundw
      case rel =>
        refine ⟨k + 1, by omega, by go_num, ?_, ?_⟩
        · rw [hst.out, pairCells_append]
          exact HO2.out
        · exact (HB.out.alloc hs1 _).grown HG.out (by simp; omega) (fun q hq => (HO.out.lt q hq).1)
      case measure => simp [intOf]; omega
    · obtain rfl : k = l.length := by omega
      rw [List.take_length] at hown
      go_wp2
      go_ret
      exact ⟨_, rfl, owns_pairs hown (by omega), hB⟩

theorem ints_nil (w : World) : IntsR w (.slice none 0 0) [] := ⟨none, 0, rfl, Nat.le_refl _, by omega, by decide, .inl rfl⟩

set_option maxRecDepth 100000 in
set_option maxHeartbeats 4000000 in
theorem l_Checks (g : G) (gv : Value) (l : List (Int × Int)) (lv : Value) (w : World) (hg : GrR w gv g) (hl : PairsR w lv l) :
    Calls Try.prog 6 #[gv, lv] w fun e w' => e = .returned (.bool true) ∧ Below w.heap.size w w' := by
  have hg' := hg
  obtain ⟨ev, rfl, a, cap, rfl, hcap, hcm, hlen, hc⟩ := hg'
  have hW : Below w.heap.size w (w.alloc (.cells #[.int .i64 g.n, .slice a g.es.length cap] 24)) := by go_grown
  have hgr := hid (hg.below hW)
  have hlr := hid (hl.below hW)
  have hF := hid (r18_Few g _ [] _ _ hgr.out (ints_nil _))
  obtain ⟨al, cl, rfl, _⟩ := hl
  cases hf : few18 g [] with
  | false =>
    rw [hf] at hF
    go_enter Try.func6, Try.ntmps6
    go_wp2_with (first
      | (go_at_call 11; refine hF.out.mono ?_; rintro e w1 ⟨rfl, hB1⟩)
      | (go_at_call 13; refine (l_awake w1).mono ?_; rintro e w2 ⟨rfl, hB2⟩))
    go_ret
    exact ⟨rfl, up (up hW hB1) hB2⟩
  | true =>
    rw [hf] at hF
    cases hb : fewB l.length with
    | false =>
      go_enter Try.func6, Try.ntmps6
      go_wp2_with (first
        | (go_at_call 11; refine hF.out.mono ?_; rintro e w1 ⟨rfl, hB1⟩)
        | (go_at_call 16; refine (l_events l _ w1 (hlr.out.below hB1)).mono ?_; rintro e w2 ⟨v2, rfl, hP2, hB2⟩)
        | (go_at_call 26; refine (r21_Few l _ w2 hP2).mono ?_; rintro e w3 ⟨rfl, rfl⟩; rw [hb])
        | (go_at_call 13; refine (l_awake _).mono ?_; rintro e w4 ⟨rfl, hB4⟩))
      go_ret
      exact ⟨rfl, up (up (up hW hB1) hB2) hB4⟩
    | true =>
      go_enter Try.func6, Try.ntmps6
      go_upto_region 3 with (first
        | (go_at_call 11; refine hF.out.mono ?_; rintro e w1 ⟨rfl, hB1⟩)
        | (go_at_call 16; refine (l_events l _ w1 (hlr.out.below hB1)).mono ?_; rintro e w2 ⟨v2, rfl, hP2, hB2⟩)
        | (go_at_call 26; refine (r21_Few l _ w2 hP2).mono ?_; rintro e w3 ⟨rfl, rfl⟩; rw [hb]))
      have hb2 : Below (w.alloc (.cells #[.int .i64 g.n, .slice a g.es.length cap] 24)).heap.size (w.alloc (.cells #[.int .i64 g.n, .slice a g.es.length cap] 24)) w2 := up hB1 hB2
      have bG : Blk w2 w.heap.size #[.int .i64 g.n, .slice a g.es.length cap] 24 := (Blk.new w _ _).below hb2
      have G2 := hid (hgr.out.below hb2)
      have L2 := hid (hlr.out.below hb2)
      have B2 := hid (up hW hb2)
      let S : World → Prop := fun w' => w'.cell? ⟨w.heap.size, 0, none⟩ = some (.int .i64 g.n) ∧ w'.cell? ⟨w.heap.size, 1, none⟩ = some (.slice a g.es.length cap)
      have hSk : Hid (∀ W, Below w2.heap.size w2 W → S W) := fun W h => ⟨(bG.below h).cell 0, (bG.below h).cell 1⟩
      clear hP2 hB2 hB1 hb2 hF hgr hlr hf hb
      (refine wp_region_text 10 [0,1,3,4,2,5,6,7,8,9] S (by kernel_rfl) (by kernel_rfl) (by intro _ _ d _ _ h; cases d <;> exact h) ?hS ?_; rotate_left; simp only [List.map_cons, List.map_nil, List.getD_cons_zero, List.getD_cons_succ, List.drop_succ_cons, List.drop_zero])
      case hS => exact hSk.out _ (Below.drew (Below.refl _ _))
      (repeat (refine' wpSeq_take rfl _ (by rfl) ?_ ?_; rotate_left; focus (intro w' hS; (try dsimp only at hS); obtain ⟨s1, s2⟩ := hS; go_simp; (first | done | with_reducible rfl)); (try simp only [Act.put, List.setIfInBounds_toArray, List.set_cons_zero, List.set_cons_succ])))
      refine wpSeq_call rfl (by rfl) (fun K hK => ?_)
      go_simp
      refine (p_schCheck g _ l _ _ (G2.out.below (Below.drew (Below.refl _ _))) (L2.out.below (Below.drew (Below.refl _ _)))).mono ?_
      rintro e w3 ⟨rfl, hB3⟩
      have k3 : Below w2.heap.size w2 w3 := up (Below.drew (Below.refl _ _)) hB3
      refine hK _ _ (hSk.out _ k3) ?_
      clear hK K
      (try simp only [Act.put, List.setIfInBounds_toArray, List.set_cons_zero, List.set_cons_succ])
      refine wpSeq_call rfl (by rfl) (fun K hK => ?_)
      go_simp
      refine (l_events l _ _ (L2.out.below k3)).mono ?_
      rintro e w4 ⟨v4, rfl, hP4, hB4⟩
      have k4 : Below w2.heap.size w2 w4 := up k3 hB4
      refine hK _ _ (hSk.out _ k4) ?_
      clear hK K
      (try simp only [Act.put, List.setIfInBounds_toArray, List.set_cons_zero, List.set_cons_succ])
      refine wpSeq_call rfl (by rfl) (fun K hK => ?_)
      go_simp
      refine (r21_Check g _ l _ _ (G2.out.below k4) hP4).mono ?_
      rintro e w5 ⟨rfl, hB5⟩
      have k5 : Below w2.heap.size w2 w5 := up k4 hB5
      refine hK _ _ (hSk.out _ k5) ?_
      clear hK K
      (try simp only [Act.put, List.setIfInBounds_toArray, List.set_cons_zero, List.set_cons_succ])
      (repeat (refine' wpSeq_take rfl _ (by rfl) ?_ ?_; rotate_left; focus (intro w' hS; (try dsimp only at hS); obtain ⟨s1, s2⟩ := hS; go_simp; (first | done | with_reducible rfl)); (try simp only [Act.put, List.setIfInBounds_toArray, List.set_cons_zero, List.set_cons_succ])))
      (try simp only [Act.put, List.setIfInBounds_toArray, List.set_cons_zero, List.set_cons_succ])
      refine wpSeq_call rfl (by rfl) (fun K hK => ?_)
      go_simp
      refine (l_awake w5).mono ?_
      rintro e w6 ⟨rfl, hB6⟩
      have k6 : Below w2.heap.size w2 w6 := up k5 hB6
      refine hK _ _ (hSk.out _ k6) ?_
      clear hK K
      (try simp only [Act.put, List.setIfInBounds_toArray, List.set_cons_zero, List.set_cons_succ])
      have B6 := hid (up B2.out k6)
      refine wpSeq_nil ?_
      clear S hSk k3 k4 k5 k6 hB3 hB4 hB5 hB6 hP4 bG
      go_wp2
      go_ret
      exact ⟨rfl, B6.out⟩

end Go.Proofs.Ytlhbgainpeehoaa
