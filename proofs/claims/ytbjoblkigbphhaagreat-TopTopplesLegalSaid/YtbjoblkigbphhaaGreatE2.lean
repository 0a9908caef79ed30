/-
  The law TopTopplesLegal, walked. The law TopTopplesLegal, walked.
-/
import Derived.Test.YtbjoblkigbphhaaGreatD5
import Derived.Test.YtbjoblkigbphhaaGreatE1
import Derived.Test.YtbjoblkigbphhaaGreatD7
namespace Go.Proofs.YtbjoblkigbphhaaGreat
set_option linter.unusedVariables false
set_option linter.unusedSimpArgs false
open Go.RowKit Go.Shelf

theorem bdd_dOf {ds : List Int} {c : Int} (hc : 0 ≤ c) (h : ∀ u, u < ds.length → -c ≤ dOf ds u ∧ dOf ds u ≤ c) : bdd (dOf ds) c := fun k => by
  by_cases hk : k < ds.length
  · exact h k hk
  · have : dOf ds k = 0 := by unfold dOf; rw [List.getElem?_eq_none (by omega)]; rfl
    rw [this]
    omega

/-- Whether a script is stabilizing. -/
def RetStz (g : G) (Q N : Nat) (d s : Nat → Int) (w : World) (e : Ending) (w' : World) : Prop := ∃ b, e = .returned (.bool b) ∧ (b = true → Stz g Q N d s) ∧ Below w.heap.size w w'
set_option maxRecDepth 100000 in
set_option maxHeartbeats 4000000 in
theorem r22_Settles (g : G) (gv : Value) (hk : Gok g) (Q : Nat) (hq : Q < g.n.toNat) (ds ss : List Int) (dv sv : Value) (w : World) (hg : GrR w gv g) (hd : IntsR w dv ds) (hs : IntsR w sv ss) (he : dErr ds g.n = 0) (hes : dErr ss g.n = 0) :
    Calls Tryz.prog 10 #[gv, .int .i64 Q, dv, sv] w (RetStz g Q g.n.toNat (dOf ds) (dOf ss) w) := by
  have hn := hk.n
  have hde := dErr_ok he
  have hse := dErr_ok hes
  have hg' := hg
  obtain ⟨ev, rfl, _⟩ := hg'
  have hd' := hd
  obtain ⟨da, dc, rfl, _⟩ := hd'
  have hs' := hs
  obtain ⟨sa, sc, rfl, _, _, _, hsc⟩ := hs'
  have kA : Below w.heap.size w (w.alloc (.cells #[.int .i64 g.n, ev] 24)) := (Below.refl _ _).alloc (Nat.le_refl _) _
  obtain ⟨W1, hW1⟩ : ∃ W : World, W = w.alloc (.cells #[.int .i64 g.n, ev] 24) := ⟨_, rfl⟩
  have HX := hid (Blk.new w #[.int .i64 g.n, ev] 24)
  rw [← hW1] at HX kA
  have HA := hid kA
  have HG := hid (hg.below kA)
  have HD := hid (hd.below kA)
  have HS := hid (hs.below kA)
  have hdb : ∀ u, u < ds.length → -1048576 ≤ dOf ds u ∧ dOf ds u ≤ 1048576 := fun u hu => by
    have := hde.2.2.2 _ (List.getElem_mem hu)
    unfold dOf
    rw [List.getElem?_eq_getElem hu, Option.getD_some]
    exact this
  have hsb : ∀ u, u < ss.length → -1048576 ≤ dOf ss u ∧ dOf ss u ≤ 1048576 := fun u hu => by
    have := hse.2.2.2 _ (List.getElem_mem hu)
    unfold dOf
    rw [List.getElem?_eq_getElem hu, Option.getD_some]
    exact this
  have hdl : ds.length = g.n.toNat := by omega
  have hsl : ss.length = g.n.toNat := by omega
  have hMV := hid (r18_Moved g _ (dOf ds) (dOf ss) _ _ W1 HG.out hk (by rw [vec_dOf hdl]; exact HD.out) (by rw [vec_dOf hsl]; exact HS.out) (bdd_dOf (by omega) (fun u hu => by have := hdb u hu; omega)) (bdd_dOf (by omega) hsb))
  have hVL := hid (fun w' (h : Below W1.heap.size W1 w') => r19_Valences g _ w' (HG.out.below h) hk)
  have HML := hid (fun u (hu : u < g.n.toNat) => moved_lap g (dOf ds) (dOf ss) u hu)
  have HSB := hid hsb
  have HN : Hid (0 < g.n.toNat ∧ g.n.toNat ≤ 12 ∧ (g.n.toNat : Int) = g.n) := by show _ ∧ _; omega
  rw [hsl] at HS hMV ⊢
  rw [hdl] at hMV HD ⊢
  have HLS := hid hsl
  unfold vals at hVL
  generalize hgn : g.n.toNat = N at *
  generalize movedV g (dOf ds) (dOf ss) = M at *
  have c0 : W1.cell? ⟨w.heap.size, 0, none⟩ = some (.int .i64 g.n) := (HX.out.cell 0).trans rfl
  have c1 : W1.cell? ⟨w.heap.size, 1, none⟩ = some ev := (HX.out.cell 1).trans rfl
  have cl := HX.out.lt
  obtain ⟨bz, zo, rfl, hbz, hz⟩ := hsc.int (by have := HN.out; omega)
  have HZ := hid (fun (W' : World) (h : Below W1.heap.size W1 W') u (hu : u < N) => (((up kA h).cell (p := ⟨bz, zo + u, none⟩) hbz).trans (hz u (by omega)) : W'.cell? ⟨bz, zo + u, none⟩ = some (.int .i64 (dOf ss u))))
  have HBZ := hid hbz
  have HQN := hid hq
  have x1 := HZ.out W1 (Below.refl _ _) Q hq
  have hq1 : (Q : Int) < (N : Int) := by omega
  have hq0 : (0 : Int) ≤ (Q : Int) := by omega
  have lz : bz < W1.heap.size := Nat.lt_of_lt_of_le hbz kA.size
  clear hg hd hs he hes hz hsc kA hde hse hn hk hbz hsl hdl hgn hdb hsb hq
  go_enter Tryz.func10, Tryz.ntmps10
  go_upto_region 1 with fail
  rw [← hW1]
  clear hW1
  by_cases hsq : dOf ss Q = 0
  case neg =>
    have hb : (dOf ss Q != 0) = true := by simpa using hsq
    generalize dOf ss Q = x at *
    clear hsq
    go_wp2_with fail
    go_ret
    exact ⟨false, rfl, (fun h => by cases h), HA.out⟩
  rw [hsq] at x1
  clear hsq
  go_wp2_with fail
  refine hMV.out.mono ?_
  rintro e w1 ⟨mb, mc, rfl, hmo, hB1⟩
  have HB1 := hid hB1
  have HMO := hid hmo
  clear hB1 c0 c1 cl x1 lz hMV hmo
  have HX1 := hid (HX.out.below HB1.out)
  have c0 : w1.cell? ⟨w.heap.size, 0, none⟩ = some (.int .i64 g.n) := (HX1.out.cell 0).trans rfl
  have c1 : w1.cell? ⟨w.heap.size, 1, none⟩ = some ev := (HX1.out.cell 1).trans rfl
  have cl := HX1.out.lt
  dsimp only
  go_wp2_with fail
  refine (hVL.out _ HB1.out).mono ?_
  rintro e w2 ⟨vv, rfl, hvo, hB2⟩
  rw [vecOf_len] at hvo
  obtain ⟨vb, vc, rfl, _, _⟩ := owns_some hvo (by have := HN.out; omega)
  have HVO := hid hvo
  have HMO2 := hid (owns_below HMO.out hB2)
  have HB2 := hid (up HB1.out hB2)
  clear hB2 hvo hVL HMO HX1 HB1 c0 c1 cl
  dsimp only
  go_wp2_with fail
  go_loopw [11] (fun iv wr => ∃ v : Nat, v ≤ N ∧ iv = .int .i64 v ∧ Hid (Below w2.heap.size w2 wr) ∧ Hid (∀ u, u < v → 0 ≤ dOf ss u ∧ ((u : Int) ≠ Q → M u < valence g u))) (fun iv _ => N - (intOf iv).toNat)
  case atStart => exact ⟨0, Nat.zero_le _, rfl, Below.refl _ _, fun u hu => by omega⟩
  case round =>
    obtain ⟨v, hv, rfl, HB, HST⟩ := hrel
    obtain ⟨W3, rfl⟩ : ∃ W : World, W = wr := ⟨_, rfl⟩
    have HX1 := hid (HX.out.below (up HB2.out HB.out))
    have c0 : W3.cell? ⟨w.heap.size, 0, none⟩ = some (.int .i64 g.n) := (HX1.out.cell 0).trans rfl
    have cl := HX1.out.lt
    by_cases hvN : v < N
    · have x1 := HZ.out W3 (up HB2.out HB.out) v hvN
      have lz : bz < W3.heap.size := by have := HBZ.out; have h1 := HA.out.size; have h2 := HB2.out.size; have h3 := HB.out.size; omega
      have cm := owns_int (owns_below HMO2.out HB.out) v hvN
      rw [vecOf_get _ _ _ hvN] at cm
      have cv := owns_int (owns_below HVO.out HB.out) v hvN
      rw [vecOf_get _ _ _ hvN] at cv
      have lm := (owns_lt (owns_below HMO2.out HB.out)).2
      have lv := (owns_lt (owns_below HVO.out HB.out)).2
      have hv1 : (v : Int) < g.n := by have := HN.out; omega
      have hvn : (v : Int) < (N : Int) := by omega
      have hv0 : (0 : Int) ≤ (v : Int) := by omega
      have wv : IntKind.i64.wrap ((v : Int) + 1) = (v : Int) + 1 := IntWalk.i64_in _ (by have := HN.out; omega)
      have HNX : Hid (0 ≤ dOf ss v → ((v : Int) ≠ Q → M v < valence g v) → ∀ u, u < v + 1 → 0 ≤ dOf ss u ∧ ((u : Int) ≠ Q → M u < valence g u)) := fun h1 h2 u hu => by
        by_cases e : u = v
        · subst e; exact ⟨h1, h2⟩
        · exact HST.out u (by omega)
      generalize dOf ss v = x at *
      generalize M v = m at *
      generalize valence g v = y at *
      have HBF := hid (up HA.out (up HB2.out HB.out))
      let S : World → Prop := fun w' => w'.cell? ⟨bz, zo + v, none⟩ = some (.int .i64 x) ∧ w'.cell? ⟨mb, v, none⟩ = some (.int .i64 m) ∧ w'.cell? ⟨vb, v, none⟩ = some (.int .i64 y)
      have hS0 : S W3.drew := ⟨x1, cm, cv⟩
      by_cases hneg : x < 0
      · clear HNX
        go_wp2_with fail
        (refine wp_region_text 20 [0,1,2,3,4,5,6,7,8,9,10,11,12,13,14,15,16,17,18,19] S (by kernel_rfl) (by kernel_rfl) (by intro _ _ d _ _ h; cases d <;> exact h) ?hS ?_; rotate_left; simp only [List.map_cons, List.map_nil, List.getD_cons_zero, List.getD_cons_succ, List.drop_succ_cons, List.drop_zero])
        case hS => exact hS0
        (repeat ((refine' wpSeq_take rfl _ (by rfl) ?_ ?_; rotate_left; focus (intro w' hS; (try dsimp only at hS); obtain ⟨s1, s2, s3⟩ := hS; go_simp; (first | done | with_reducible rfl)); (try simp only [Act.put, List.setIfInBounds_toArray, List.set_cons_zero, List.set_cons_succ])); (try simp only [Act.put, List.setIfInBounds_toArray, List.set_cons_zero, List.set_cons_succ])))
        (try (repeat (refine wpSeq_skip (by rfl) ?_; (try simp only [Act.put, List.setIfInBounds_toArray, List.set_cons_zero, List.set_cons_succ]))))
        (try (repeat ((refine' wpSeq_take rfl _ (by rfl) ?_ ?_; rotate_left; focus (intro w' hS; (try dsimp only at hS); obtain ⟨s1, s2, s3⟩ := hS; go_simp; (first | done | with_reducible rfl)); (try simp only [Act.put, List.setIfInBounds_toArray, List.set_cons_zero, List.set_cons_succ])); (try simp only [Act.put, List.setIfInBounds_toArray, List.set_cons_zero, List.set_cons_succ]))))
        (try (repeat (refine wpSeq_skip (by rfl) ?_; (try simp only [Act.put, List.setIfInBounds_toArray, List.set_cons_zero, List.set_cons_succ]))))
        (try (repeat ((refine' wpSeq_take rfl _ (by rfl) ?_ ?_; rotate_left; focus (intro w' hS; (try dsimp only at hS); obtain ⟨s1, s2, s3⟩ := hS; go_simp; (first | done | with_reducible rfl)); (try simp only [Act.put, List.setIfInBounds_toArray, List.set_cons_zero, List.set_cons_succ])); (try simp only [Act.put, List.setIfInBounds_toArray, List.set_cons_zero, List.set_cons_succ]))))
        refine wpSeq_nil ?_
        clear hS0 S
        go_wp2_with fail
        go_ret
        exact ⟨false, rfl, (fun h => by cases h), HBF.out.drew⟩
      · have hnb : decide (x < 0) = false := by simpa using hneg
        by_cases hqv : (v : Int) = (Q : Int)
        · have hqb : ((v : Int) != (Q : Int)) = false := by simp [hqv]
          have hnx := hid (HNX.out (by omega) (fun h => absurd hqv h))
          clear hqv HNX
          go_wp2_with fail
          (refine wp_region_text 20 [0,1,2,3,4,5,6,7,8,9,10,11,12,13,14,15,16,17,18,19] S (by kernel_rfl) (by kernel_rfl) (by intro _ _ d _ _ h; cases d <;> exact h) ?hS ?_; rotate_left; simp only [List.map_cons, List.map_nil, List.getD_cons_zero, List.getD_cons_succ, List.drop_succ_cons, List.drop_zero])
          case hS => exact hS0
          (repeat ((refine' wpSeq_take rfl _ (by rfl) ?_ ?_; rotate_left; focus (intro w' hS; (try dsimp only at hS); obtain ⟨s1, s2, s3⟩ := hS; go_simp; (first | done | with_reducible rfl)); (try simp only [Act.put, List.setIfInBounds_toArray, List.set_cons_zero, List.set_cons_succ])); (try simp only [Act.put, List.setIfInBounds_toArray, List.set_cons_zero, List.set_cons_succ])))
          (try (repeat (refine wpSeq_skip (by rfl) ?_; (try simp only [Act.put, List.setIfInBounds_toArray, List.set_cons_zero, List.set_cons_succ]))))
          (try (repeat ((refine' wpSeq_take rfl _ (by rfl) ?_ ?_; rotate_left; focus (intro w' hS; (try dsimp only at hS); obtain ⟨s1, s2, s3⟩ := hS; go_simp; (first | done | with_reducible rfl)); (try simp only [Act.put, List.setIfInBounds_toArray, List.set_cons_zero, List.set_cons_succ])); (try simp only [Act.put, List.setIfInBounds_toArray, List.set_cons_zero, List.set_cons_succ]))))
          (try (repeat (refine wpSeq_skip (by rfl) ?_; (try simp only [Act.put, List.setIfInBounds_toArray, List.set_cons_zero, List.set_cons_succ]))))
          (try (repeat ((refine' wpSeq_take rfl _ (by rfl) ?_ ?_; rotate_left; focus (intro w' hS; (try dsimp only at hS); obtain ⟨s1, s2, s3⟩ := hS; go_simp; (first | done | with_reducible rfl)); (try simp only [Act.put, List.setIfInBounds_toArray, List.set_cons_zero, List.set_cons_succ])); (try simp only [Act.put, List.setIfInBounds_toArray, List.set_cons_zero, List.set_cons_succ]))))
          refine wpSeq_nil ?_
          clear hS0 S
          go_wp2_with fail
          go_roundw
          case rel => exact ⟨v + 1, by omega, by go_num, HB.out.drew, hnx⟩
          case measure => simp [intOf]; omega
        · have hqb : ((v : Int) != (Q : Int)) = true := by simp [hqv]
          by_cases hge : y ≤ m
          · have hgb : decide (y ≤ m) = true := by simpa using hge
            clear HNX hqv
            go_wp2_with fail
            (refine wp_region_text 20 [0,1,2,3,4,5,6,7,8,9,10,11,12,13,14,15,16,17,18,19] S (by kernel_rfl) (by kernel_rfl) (by intro _ _ d _ _ h; cases d <;> exact h) ?hS ?_; rotate_left; simp only [List.map_cons, List.map_nil, List.getD_cons_zero, List.getD_cons_succ, List.drop_succ_cons, List.drop_zero])
            case hS => exact hS0
            (repeat ((refine' wpSeq_take rfl _ (by rfl) ?_ ?_; rotate_left; focus (intro w' hS; (try dsimp only at hS); obtain ⟨s1, s2, s3⟩ := hS; go_simp; (first | done | with_reducible rfl)); (try simp only [Act.put, List.setIfInBounds_toArray, List.set_cons_zero, List.set_cons_succ])); (try simp only [Act.put, List.setIfInBounds_toArray, List.set_cons_zero, List.set_cons_succ])))
            (try (repeat (refine wpSeq_skip (by rfl) ?_; (try simp only [Act.put, List.setIfInBounds_toArray, List.set_cons_zero, List.set_cons_succ]))))
            (try (repeat ((refine' wpSeq_take rfl _ (by rfl) ?_ ?_; rotate_left; focus (intro w' hS; (try dsimp only at hS); obtain ⟨s1, s2, s3⟩ := hS; go_simp; (first | done | with_reducible rfl)); (try simp only [Act.put, List.setIfInBounds_toArray, List.set_cons_zero, List.set_cons_succ])); (try simp only [Act.put, List.setIfInBounds_toArray, List.set_cons_zero, List.set_cons_succ]))))
            (try (repeat (refine wpSeq_skip (by rfl) ?_; (try simp only [Act.put, List.setIfInBounds_toArray, List.set_cons_zero, List.set_cons_succ]))))
            (try (repeat ((refine' wpSeq_take rfl _ (by rfl) ?_ ?_; rotate_left; focus (intro w' hS; (try dsimp only at hS); obtain ⟨s1, s2, s3⟩ := hS; go_simp; (first | done | with_reducible rfl)); (try simp only [Act.put, List.setIfInBounds_toArray, List.set_cons_zero, List.set_cons_succ])); (try simp only [Act.put, List.setIfInBounds_toArray, List.set_cons_zero, List.set_cons_succ]))))
            refine wpSeq_nil ?_
            clear hS0 S
            go_wp2_with fail
            go_ret
            exact ⟨false, rfl, (fun h => by cases h), HBF.out.drew⟩
          · have hgb : decide (y ≤ m) = false := by simpa using hge
            have hnx := hid (HNX.out (by omega) (fun _ => by omega))
            clear hqv HNX
            go_wp2_with fail
            (refine wp_region_text 20 [0,1,2,3,4,5,6,7,8,9,10,11,12,13,14,15,16,17,18,19] S (by kernel_rfl) (by kernel_rfl) (by intro _ _ d _ _ h; cases d <;> exact h) ?hS ?_; rotate_left; simp only [List.map_cons, List.map_nil, List.getD_cons_zero, List.getD_cons_succ, List.drop_succ_cons, List.drop_zero])
            case hS => exact hS0
            (repeat ((refine' wpSeq_take rfl _ (by rfl) ?_ ?_; rotate_left; focus (intro w' hS; (try dsimp only at hS); obtain ⟨s1, s2, s3⟩ := hS; go_simp; (first | done | with_reducible rfl)); (try simp only [Act.put, List.setIfInBounds_toArray, List.set_cons_zero, List.set_cons_succ])); (try simp only [Act.put, List.setIfInBounds_toArray, List.set_cons_zero, List.set_cons_succ])))
            (try (repeat (refine wpSeq_skip (by rfl) ?_; (try simp only [Act.put, List.setIfInBounds_toArray, List.set_cons_zero, List.set_cons_succ]))))
            (try (repeat ((refine' wpSeq_take rfl _ (by rfl) ?_ ?_; rotate_left; focus (intro w' hS; (try dsimp only at hS); obtain ⟨s1, s2, s3⟩ := hS; go_simp; (first | done | with_reducible rfl)); (try simp only [Act.put, List.setIfInBounds_toArray, List.set_cons_zero, List.set_cons_succ])); (try simp only [Act.put, List.setIfInBounds_toArray, List.set_cons_zero, List.set_cons_succ]))))
            (try (repeat (refine wpSeq_skip (by rfl) ?_; (try simp only [Act.put, List.setIfInBounds_toArray, List.set_cons_zero, List.set_cons_succ]))))
            (try (repeat ((refine' wpSeq_take rfl _ (by rfl) ?_ ?_; rotate_left; focus (intro w' hS; (try dsimp only at hS); obtain ⟨s1, s2, s3⟩ := hS; go_simp; (first | done | with_reducible rfl)); (try simp only [Act.put, List.setIfInBounds_toArray, List.set_cons_zero, List.set_cons_succ])); (try simp only [Act.put, List.setIfInBounds_toArray, List.set_cons_zero, List.set_cons_succ]))))
            refine wpSeq_nil ?_
            clear hS0 S
            go_wp2_with fail
            go_roundw
            case rel => exact ⟨v + 1, by omega, by go_num, HB.out.drew, hnx⟩
            case measure => simp [intOf]; omega
    · obtain rfl : v = N := by omega
      have hnl : ¬ (v : Int) < g.n := by have := HN.out; omega
      have HFZ : Hid (Stz g Q v (dOf ds) (dOf ss)) := ⟨fun u hu hne => by rw [← HML.out u hu]; exact (HST.out u hu).2 hne, fun u hu => (HST.out u hu).1⟩
      have HBF := hid (up HA.out (up HB2.out HB.out))
      go_wp2_with fail
      go_ret
      exact ⟨true, rfl, fun _ => HFZ.out, HBF.out⟩

end Go.Proofs.YtbjoblkigbphhaaGreat

namespace Go.Proofs.YtbjoblkigbphhaaGreat
set_option linter.unusedVariables false
set_option linter.unusedSimpArgs false
open Go.RowKit Go.Shelf

theorem legal_all {g : G} {q : Int} {ds ss : List Int} (hc : cfgErr g q ds = 0) (hs : small17 ds = true) {r : St} (hr : stabR g q ds = .inr r) {L T : Nat → Int} (hleg : Leg g q g.n.toNat (dOf ds) L T) (hT : ∀ u, u < g.n.toNat → T u = dOf ss u) :
    bddB g.n.toNat (movedV g (dOf ds) (dOf ss)) = true ∧ vecOf g.n.toNat (movedV g (dOf ds) (dOf ss)) = vecOf g.n.toNat L ∧ ∃ t, stabR g q (vecOf g.n.toNat L) = .inr t ∧ ∀ u, u < g.n.toNat → dOf ss u + t.T u = r.T u := by
  obtain ⟨Q, hQ⟩ := pil_ok hc hs
  have hmL : ∀ u, u < g.n.toNat → movedV g (dOf ds) (dOf ss) u = L u := fun u hu => by
    rw [moved_lap g _ _ u hu]
    have h1 := hleg.bal.1 u hu
    have e1 : (⟨L, T⟩ : St).L u = L u := rfl
    rw [e1] at h1
    rw [h1]
    unfold lapD
    have e2 : sumTo (fun v => dOf ss v * rowsF g v u) g.n.toNat = sumTo (fun v => T v * rowsF g v u) g.n.toNat := sumTo_congr _ _ _ fun v hv => by rw [hT v hv]
    rw [e2]
    dsimp only
    rw [hT u hu]
  have hbnd := hleg.bd hQ
  obtain ⟨t, ht, hTt⟩ := legal_law hc hs hleg hr
  exact ⟨bdd_in fun u hu => by rw [hmL u hu]; have := hbnd u hu; omega, vecOf_congr _ _ L hmL, t, ht, fun u hu => by rw [← hT u hu]; exact hTt u hu⟩

set_option maxRecDepth 100000 in
set_option maxHeartbeats 12000000 in
theorem l_Legal (g : G) (gv : Value) (q : Int) (ds ps ss : List Int) (xv : Value) (w : World) (hg : GrR w gv g) (hx : PileR w xv q ds ps ss) :
    Calls Tryz.prog 3 #[gv, xv] w fun e w' => e = .returned (.bool true) ∧ Below w.heap.size w w' := by
  have hg' := hg
  obtain ⟨ev, rfl, _⟩ := hg'
  have hx' := hx
  obtain ⟨dv, pv, sv, rfl, hd, hp, hs⟩ := hx'
  have hd' := hd
  obtain ⟨da, dc, rfl, _⟩ := hd'
  have hp' := hp
  obtain ⟨pa, pc, rfl, _⟩ := hp'
  have hs' := hs
  obtain ⟨sa, sc, rfl, _⟩ := hs'
  obtain ⟨W1, hW1⟩ : ∃ W : World, W = (w.alloc (.cells #[.int .i64 g.n, ev] 24)).alloc (.cells #[.int .i64 q, .slice da ds.length dc, .slice pa ps.length pc, .slice sa ss.length sc] 29) := ⟨_, rfl⟩
  have hB : Below w.heap.size w W1 := by rw [hW1]; exact ((Below.refl _ _).alloc (Nat.le_refl _) _).alloc (by simp) _
  have bG : Hid (Blk W1 w.heap.size #[.int .i64 g.n, ev] 24) := by rw [hW1]; exact (Blk.new _ _ _).alloc _
  have bX : Hid (Blk W1 (w.heap.size + 1) #[.int .i64 q, .slice da ds.length dc, .slice pa ps.length pc, .slice sa ss.length sc] 29) := by rw [hW1]; have := Blk.new (w.alloc (.cells #[.int .i64 g.n, ev] 24)) #[.int .i64 q, .slice da ds.length dc, .slice pa ps.length pc, .slice sa ss.length sc] 29; rw [World.size_alloc] at this; exact this
  have hG := hid (hg.below hB)
  have hD := hid (hd.below hB)
  have hS := hid (hs.below hB)
  have hX : Hid (PileR W1 (.agg #[.int .i64 q, .slice da ds.length dc, .slice pa ps.length pc, .slice sa ss.length sc]) q ds ps ss) := by
    obtain ⟨dv, pv, sv, e, h1, h2, h3⟩ := hx
    exact ⟨dv, pv, sv, e, h1.below hB, h2.below hB, h3.below hB⟩
  have HB := hid hB
  have hCP := hid (fun w => l_cases w)
  have HDR0 := hid (fun (W' : World) (h : Below W1.heap.size W1 W') => hD.out.below h)
  have HCC : Hid (∀ W', Below W1.heap.size W1 W' → (W'.cell? ⟨w.heap.size, 0, none⟩ = some (.int .i64 g.n) ∧ W'.cell? ⟨w.heap.size, 1, none⟩ = some ev) ∧ (W'.cell? ⟨w.heap.size + 1, 0, none⟩ = some (.int .i64 q) ∧ W'.cell? ⟨w.heap.size + 1, 1, none⟩ = some (.slice da ds.length dc) ∧ W'.cell? ⟨w.heap.size + 1, 2, none⟩ = some (.slice pa ps.length pc) ∧ W'.cell? ⟨w.heap.size + 1, 3, none⟩ = some (.slice sa ss.length sc)) ∧ w.heap.size < W'.heap.size ∧ w.heap.size + 1 < W'.heap.size) := fun W' h => by
    have h1 := bG.out.below h
    have h2 := bX.out.below h
    exact ⟨⟨h1.cell 0, h1.cell 1⟩, ⟨h2.cell 0, h2.cell 1, h2.cell 2, h2.cell 3⟩, h1.lt, h2.lt⟩
  obtain ⟨⟨c0, c1⟩, ⟨d0, d1, d2, d3⟩, lg, lx⟩ := HCC.out W1 (Below.refl _ _)
  clear hg hd hp hx hB hs
  go_enter Tryz.func3, Tryz.ntmps3
  go_wp2_with fail
  rw [← hW1]
  clear hW1
  refine (l_pile g _ q ds ps ss _ _ hG.out hX.out).mono ?_
  rintro e w1 ⟨rfl, hB1⟩
  have B1 := hid hB1
  clear hB1 c0 c1 d0 d1 d2 d3 lg lx
  cases hf : pileB g q ds ps with
  | false =>
    dsimp only
    go_wp2_with fail
    refine (hCP.out _).mono ?_
    rintro e wz ⟨rfl, hBz⟩
    dsimp only
    go_wp2_with fail
    go_ret
    exact ⟨rfl, up (up HB.out B1.out) hBz⟩
  | true =>
  obtain ⟨hc, hsm, hpk⟩ := pileB_ok hf
  have hok := (cfg_ok hc).1
  have hn := hok.n
  have HN : Hid (0 < g.n.toNat ∧ g.n.toNat ≤ 12 ∧ (g.n.toNat : Int) = g.n) := by show _ ∧ _; omega
  have HC := hid hc
  have HSM := hid hsm
  have HOK := hid hok
  have hck : checkErr g = 0 := hok
  obtain ⟨⟨c0, c1⟩, ⟨d0, d1, d2, d3⟩, lg, lx⟩ := HCC.out w1 B1.out
  clear hf hpk hn hX
  dsimp only
  go_wp2_with fail
  refine (r18_Check g _ ss _ w1 (hG.out.below B1.out) (hS.out.below B1.out)).mono ?_
  rintro e w2 ⟨rfl, hB2⟩
  rw [hck, if_neg (by simp)]
  have B2 := hid (up B1.out hB2)
  clear hB2 c0 c1 d0 d1 d2 d3 lg lx B1 hck
  obtain ⟨⟨c0, c1⟩, ⟨d0, d1, d2, d3⟩, lg, lx⟩ := HCC.out w2 B2.out
  dsimp only
  by_cases hes : dErr ss g.n = 0
  case neg =>
    have hb : (dErr ss g.n != 0) = true := by simpa using hes
    generalize dErr ss g.n = z at *
    clear hes
    go_wp2_with fail
    refine (hCP.out _).mono ?_
    rintro e wz ⟨rfl, hBz⟩
    dsimp only
    go_wp2_with fail
    go_ret
    exact ⟨rfl, up (up HB.out B2.out) hBz⟩
  rw [hes]
  have HES := hid hes
  have HSL : Hid (ss.length = g.n.toNat) := by have := (dErr_ok hes).2.2.1; show _ = _; omega
  clear hes
  go_wp2_with fail
  refine (r17_Small ss _ w2 (hS.out.below B2.out)).mono ?_
  rintro e w3 ⟨rfl, rfl⟩
  dsimp only
  cases hss : small17 ss with
  | false =>
    go_wp2_with fail
    refine (hCP.out _).mono ?_
    rintro e wz ⟨rfl, hBz⟩
    dsimp only
    go_wp2_with fail
    go_ret
    exact ⟨rfl, up (up HB.out B2.out) hBz⟩
  | true =>
  have HSS := hid hss
  clear hss
  have HST := hid (fun ds' dv' W' (h : Below W1.heap.size W1 W') (h2 : IntsR W' dv' ds') => p_Stabilize g _ q ds' dv' W' (hG.out.below h) h2)
  go_wp2_with fail
  refine (HST.out ds _ w2 B2.out (hD.out.below B2.out)).mono ?_
  rintro e w3 hr
  obtain ⟨hB3, ht⟩ := tri_out HN.out.2.1 hr
  clear hr
  have B3 := hid (up B2.out hB3)
  clear hB3 c0 c1 d0 d1 d2 d3 lg lx B2
  obtain ⟨⟨c0, c1⟩, ⟨d0, d1, d2, d3⟩, lg, lx⟩ := HCC.out w3 B3.out
  rcases stab_cases HC.out HSM.out with ⟨hst, _⟩ | ⟨r, hst, hbal, hstz, hleast, hsum⟩
  · rw [hst] at ht
    dsimp only [TriP] at ht
    subst ht
    clear hst
    dsimp only
    go_wp2_with fail
    refine (hCP.out _).mono ?_
    rintro e wz ⟨rfl, hBz⟩
    dsimp only
    go_wp2_with fail
    go_ret
    exact ⟨rfl, up (up HB.out B3.out) hBz⟩
  rw [hst] at ht
  dsimp only [TriP] at ht
  obtain ⟨va, vs, rfl, hIa, hIs⟩ := ht
  have hvl := vecOf_len g.n.toNat r.T
  have hls := hIs
  obtain ⟨sba, sbc, rfl, _, _, _, hsc⟩ := hls
  obtain ⟨sb, so, rfl, hsb, hscc⟩ := hsc.int (by have := HN.out; omega)
  rw [hvl] at hIs hscc ⊢
  have HIS := hid hIs
  have HR := hid hst
  have HOD : Hid (Odo g q ds r) := ⟨HC.out, hbal, hstz, hleast, hsum⟩
  have HSBL := hid hsb
  have HSC : Hid (∀ u, u < g.n.toNat → w3.cell? ⟨sb, so + u, none⟩ = some (.int .i64 (r.T u))) := fun u hu => by
    have := hscc u hu
    rwa [vecOf_get _ _ _ hu] at this
  have hnn : ((g.n.toNat : Int) != g.n) = false := by have := HN.out; rw [this.2.2]; simp
  have HPOK := hid (pil_ok HC.out HSM.out)
  obtain ⟨Q, hQ⟩ := HPOK.out
  have hqq := hQ.qq
  have HQ := hid hQ
  have hd0 := (cfg_ok HC.out)
  have hdE : dErr ds g.n = 0 := by
    unfold dErr
    rw [if_neg (by have := hd0.1.n; omega), if_neg (by have := hd0.2.2.2.1; omega), if_pos]
    exact List.all_eq_true.2 fun k hk => by have := hd0.2.2.2.2.1 k hk; unfold inB; simp; omega
  have HDE := hid hdE
  clear hIa hIs hst hbal hstz hleast hsum hsb hscc hsc hvl hok hc hsm hQ hd0 hdE HPOK hD
  have HSET := hid (fun W' (h : Below W1.heap.size W1 W') (hd : IntsR W' (.slice da ds.length dc) ds) => r22_Settles g _ HOK.out Q HQ.out.qN ds ss _ _ W' (hG.out.below h) hd (hS.out.below h) HDE.out HES.out)
  have HDR : Hid (∀ W', Below W1.heap.size W1 W' → IntsR W' (.slice da ds.length dc) ds) := HDR0.out
  rw [← hqq] at HSET
  have HALL := hid (fun (L T : Nat → Int) (hleg : Leg g q g.n.toNat (dOf ds) L T) hT => legal_all (ss := ss) HC.out HSM.out HR.out hleg hT)
  have HAPP := hid (fun w' (h : Below W1.heap.size W1 w') hb => f_Apply g _ HOK.out ds ss _ _ w' (hG.out.below h) (HDR.out _ h) (hS.out.below h) HDE.out HES.out hb)
  have HLGL := hid (fun w' (h : Below W1.heap.size W1 w') => b_Legal g _ q ds ss _ _ w' (hG.out.below h) (HDR.out _ h) (hS.out.below h) HC.out HSM.out HES.out HSS.out)
  have HLEA := hid HOD.out.least
  have HTB := hid HOD.out.t
  have HQQ := hid hqq
  clear hqq HOD HR HQ
  generalize hgn : g.n.toNat = N at *
  clear hgn
  dsimp only
  go_wp2_with fail
  refine (HSET.out w3 B3.out (HDR.out w3 B3.out)).mono ?_
  rintro e w4 ⟨bs, rfl, hbs, hB4⟩
  have HBS := hid hbs
  have HB34 := hid hB4
  have B4 := hid (up B3.out hB4)
  clear hB4 c0 c1 d0 d1 d2 d3 lg lx hbs HSET
  obtain ⟨⟨c0, c1⟩, ⟨d0, d1, d2, d3⟩, lg, lx⟩ := HCC.out w4 B4.out
  have HXC : Hid (∀ W', Below W1.heap.size W1 W' → ∀ u, u < N → ∃ b off, sa = some ⟨b, off, none⟩ ∧ b < W'.heap.size ∧ W'.cell? ⟨b, off + u, none⟩ = some (.int .i64 (dOf ss u))) := fun W' h u hu => by
    obtain ⟨a1, c1', e1, _, _, _, hcs⟩ := hS.out.below h
    obtain ⟨rfl, rfl⟩ : sa = a1 ∧ sc = c1' := by simpa using e1
    obtain ⟨ba, off, rfl, hba, hx⟩ := hcs.int (by have := HSL.out; omega)
    exact ⟨ba, off, rfl, hba, hx u (by have := HSL.out; omega)⟩
  dsimp only
  cases bs with
  | true =>
    have HSZ := hid (HBS.out rfl)
    go_wp2_with fail
    go_loopw [68] (fun iv wr => ∃ v : Nat, v ≤ N ∧ iv = .int .i64 v ∧ Hid (Below w4.heap.size w4 wr)) (fun iv _ => N - (intOf iv).toNat)
    case atStart => exact ⟨0, Nat.zero_le _, rfl, Below.refl _ _⟩
    case round =>
      clear c0 c1 d0 d1 d2 d3 lg lx
      obtain ⟨v, hv, rfl, HBv⟩ := hrel
      obtain ⟨W5, rfl⟩ : ∃ W : World, W = wr := ⟨_, rfl⟩
      have B5 := hid (up B4.out HBv.out)
      have C5 := hid (up HB34.out HBv.out)
      obtain ⟨⟨c0, c1⟩, ⟨d0, d1, d2, d3⟩, lg, lx⟩ := HCC.out W5 B5.out
      by_cases hvN : v < N
      · obtain ⟨bz, zo, rfl, hbz, x1⟩ := HXC.out W5 B5.out v hvN
        have x2 := ((up HB34.out HBv.out).cell (p := ⟨sb, so + v, none⟩) HSBL.out).trans (HSC.out v hvN)
        have lz : sb < W5.heap.size := Nat.lt_of_lt_of_le HSBL.out (up HB34.out HBv.out).size
        have hle := HLEA.out _ (by rw [HQQ.out]; exact HSZ.out) v hvN
        have hgt : decide (dOf ss v < r.T v) = false := by simpa using hle
        have hgt' : ¬ dOf ss v < r.T v := by omega
        have hvn : (v : Int) < (N : Int) := by omega
        have hvs : (v : Int) < (ss.length : Int) := by have := HSL.out; omega
        have hv0 : (0 : Int) ≤ (v : Int) := by omega
        have wv : IntKind.i64.wrap ((v : Int) + 1) = (v : Int) + 1 := IntWalk.i64_in _ (by have := HN.out; omega)
        generalize dOf ss v = x at *
        generalize r.T v = y at *
        clear hle
        let S : World → Prop := fun w' => w'.cell? ⟨w.heap.size + 1, 3, none⟩ = some (.slice (some ⟨bz, zo, none⟩) ss.length sc) ∧ w'.cell? ⟨bz, zo + v, none⟩ = some (.int .i64 x) ∧ w'.cell? ⟨sb, so + v, none⟩ = some (.int .i64 y)
        have hS0 : S W5.drew := ⟨d3, x1, x2⟩
        clear hgt'
        go_wp2_with fail
        (refine wp_region_text 9 [0,1,2,3,4,5,6,7,8] S (by kernel_rfl) (by kernel_rfl) (by intro _ _ d _ _ h; cases d <;> exact h) ?hS ?_; rotate_left; simp only [List.map_cons, List.map_nil, List.getD_cons_zero, List.getD_cons_succ, List.drop_succ_cons, List.drop_zero])
        case hS => exact hS0
        (repeat ((refine' wpSeq_take rfl _ (by rfl) ?_ ?_; rotate_left; focus (intro w' hS; (try dsimp only at hS); obtain ⟨s1, s2, s3⟩ := hS; go_simp; (first | done | with_reducible rfl)); (try simp only [Act.put, List.setIfInBounds_toArray, List.set_cons_zero, List.set_cons_succ])); (try simp only [Act.put, List.setIfInBounds_toArray, List.set_cons_zero, List.set_cons_succ])))
        refine wpSeq_nil ?_
        clear hS0 S
        go_wp2_with fail
        go_roundw
        case rel => exact ⟨v + 1, by omega, by go_num, HBv.out.drew⟩
        case measure => simp [intOf]; omega
      · obtain e : v = N := by omega
        have hvl : ¬ (v : Int) < (N : Int) := by omega
        clear e hv hvN
        go_wp2_with fail
        refine (HLGL.out W5 B5.out).mono ?_
        rintro e w6 ⟨hB6, lv, ok, k, rfl, hlg⟩
        have B6 := hid (up B5.out hB6)
        have C6 := hid (up C5.out hB6)
        have HLG := hid hlg
        clear hB6 c0 c1 d0 d1 d2 d3 lg lx hlg
        obtain ⟨⟨c0, c1⟩, ⟨d0, d1, d2, d3⟩, lg, lx⟩ := HCC.out w6 B6.out
        dsimp only
        by_cases hk : k = 0
        case neg =>
          have hkb : (k != 0) = true := by simpa using hk
          clear hk
          go_wp2_with fail
          refine (hCP.out _).mono ?_
          rintro e wz ⟨rfl, hBz⟩
          dsimp only
          go_wp2_with fail
          go_ret
          exact ⟨rfl, up (up HB.out B6.out) hBz⟩
        subst hk
        cases ok with
        | false =>
          go_wp2_with fail
          refine (hCP.out _).mono ?_
          rintro e wz ⟨rfl, hBz⟩
          dsimp only
          go_wp2_with fail
          go_ret
          exact ⟨rfl, up (up HB.out B6.out) hBz⟩
        | true =>
        obtain ⟨L, T, hleg, hT⟩ := HLG.out rfl rfl
        obtain ⟨hbdd, hmv, t, ht, hTt⟩ := HALL.out L T hleg hT
        have HAP := hid (HAPP.out w6 B6.out hbdd)
        rw [hmv] at HAP
        have HT2 := hid ht
        have HTT := hid hTt
        clear hleg hT hmv hbdd hTt ht HLG
        go_wp2_with fail
        refine HAP.out.mono ?_
        rintro e w7 ⟨db, dc2, rfl, hown, hB7⟩
        have HD7 := hid (owns_intsN hown (vecOf_len _ _) (by have := HN.out; omega))
        have B7 := hid (up B6.out hB7)
        have C7 := hid (up C6.out hB7)
        clear hB7 c0 c1 d0 d1 d2 d3 lg lx hown HAP
        obtain ⟨⟨c0, c1⟩, ⟨d0, d1, d2, d3⟩, lg, lx⟩ := HCC.out w7 B7.out
        dsimp only
        go_wp2_with fail
        refine (HST.out _ _ w7 B7.out HD7.out).mono ?_
        rintro e w8 hr
        rw [HT2.out] at hr
        obtain ⟨hB8, b1, c3, b2, c4, rfl, ho1, ho2⟩ := hr
        have HO2 := hid ho2
        have B8 := hid (up B7.out hB8)
        have C8 := hid (up C7.out hB8)
        clear hB8 c0 c1 d0 d1 d2 d3 lg lx ho1 ho2 HD7
        obtain ⟨⟨c0, c1⟩, ⟨d0, d1, d2, d3⟩, lg, lx⟩ := HCC.out w8 B8.out
        dsimp only
        go_wp2_with fail
        go_loopw [132] (fun iv wr => ∃ v : Nat, v ≤ N ∧ iv = .int .i64 v ∧ Hid (Below w8.heap.size w8 wr)) (fun iv _ => N - (intOf iv).toNat)
        case atStart => exact ⟨0, Nat.zero_le _, rfl, Below.refl _ _⟩
        case round =>
          clear c0 c1 d0 d1 d2 d3 lg lx
          obtain ⟨v, hv, rfl, HBv2⟩ := hrel
          obtain ⟨W9, rfl⟩ : ∃ W : World, W = wr := ⟨_, rfl⟩
          have B9 := hid (up B8.out HBv2.out)
          have C9 := hid (up C8.out HBv2.out)
          have HO9 := hid (owns_below HO2.out HBv2.out)
          obtain ⟨⟨c0, c1⟩, ⟨d0, d1, d2, d3⟩, lg, lx⟩ := HCC.out W9 B9.out
          by_cases hvN2 : v < N
          · obtain ⟨bz, zo, rfl, hbz, x1⟩ := HXC.out W9 B9.out v hvN2
            have x2 := (C9.out.cell (p := ⟨sb, so + v, none⟩) HSBL.out).trans (HSC.out v hvN2)
            have lz : sb < W9.heap.size := Nat.lt_of_lt_of_le HSBL.out C9.out.size
            have x3 := owns_int HO9.out v hvN2
            rw [vecOf_get _ _ _ hvN2] at x3
            have ly := (owns_lt HO9.out).2
            have heq := HTT.out v hvN2
            have htb := HTB.out v hvN2
            have hvn : (v : Int) < (N : Int) := by omega
            have hvs : (v : Int) < (ss.length : Int) := by have := HSL.out; omega
            have hv0 : (0 : Int) ≤ (v : Int) := by omega
            have wv : IntKind.i64.wrap ((v : Int) + 1) = (v : Int) + 1 := IntWalk.i64_in _ (by have := HN.out; omega)
            generalize dOf ss v = x at *
            generalize r.T v = y at *
            generalize t.T v = z at *
            have wz : IntKind.i64.wrap (x + z) = y := by rw [heq]; exact IntWalk.i64_in _ (by omega)
            have hyy : (y != y) = false := by simp
            clear heq htb
            let S : World → Prop := fun w' => w'.cell? ⟨w.heap.size + 1, 3, none⟩ = some (.slice (some ⟨bz, zo, none⟩) ss.length sc) ∧ w'.cell? ⟨bz, zo + v, none⟩ = some (.int .i64 x) ∧ w'.cell? ⟨sb, so + v, none⟩ = some (.int .i64 y) ∧ w'.cell? ⟨b2, v, none⟩ = some (.int .i64 z)
            have hS0 : S W9.drew := ⟨d3, x1, x2, x3⟩
            go_wp2_with fail
            (refine wp_region_text 14 [0,1,2,3,4,5,6,7,8,9,10,11,12,13] S (by kernel_rfl) (by kernel_rfl) (by intro _ _ d _ _ h; cases d <;> exact h) ?hS ?_; rotate_left; simp only [List.map_cons, List.map_nil, List.getD_cons_zero, List.getD_cons_succ, List.drop_succ_cons, List.drop_zero])
            case hS => exact hS0
            (repeat ((refine' wpSeq_take rfl _ (by rfl) ?_ ?_; rotate_left; focus (intro w' hS; (try dsimp only at hS); obtain ⟨s1, s2, s3, s4⟩ := hS; go_simp; (first | done | with_reducible rfl)); (try simp only [Act.put, List.setIfInBounds_toArray, List.set_cons_zero, List.set_cons_succ])); (try simp only [Act.put, List.setIfInBounds_toArray, List.set_cons_zero, List.set_cons_succ])))
            refine wpSeq_nil ?_
            clear hS0 S
            go_wp2_with fail
            go_roundw
            case rel => exact ⟨v + 1, by omega, by go_num, HBv2.out.drew⟩
            case measure => simp [intOf]; omega
          · have hvl2 : ¬ (v : Int) < (N : Int) := by omega
            go_wp2_with fail
            refine (hCP.out _).mono ?_
            rintro e wz ⟨rfl, hBz⟩
            dsimp only
            go_wp2_with fail
            go_ret
            exact ⟨rfl, up (up HB.out B9.out) hBz⟩
  | false =>
    go_wp2_with fail
    refine (HLGL.out w4 B4.out).mono ?_
    rintro e w6 ⟨hB6, lv, ok, k, rfl, hlg⟩
    have B6 := hid (up B4.out hB6)
    have C6 := hid (up HB34.out hB6)
    have HLG := hid hlg
    clear hB6 c0 c1 d0 d1 d2 d3 lg lx hlg
    obtain ⟨⟨c0, c1⟩, ⟨d0, d1, d2, d3⟩, lg, lx⟩ := HCC.out w6 B6.out
    dsimp only
    by_cases hk : k = 0
    case neg =>
      have hkb : (k != 0) = true := by simpa using hk
      clear hk
      go_wp2_with fail
      refine (hCP.out _).mono ?_
      rintro e wz ⟨rfl, hBz⟩
      dsimp only
      go_wp2_with fail
      go_ret
      exact ⟨rfl, up (up HB.out B6.out) hBz⟩
    subst hk
    cases ok with
    | false =>
      go_wp2_with fail
      refine (hCP.out _).mono ?_
      rintro e wz ⟨rfl, hBz⟩
      dsimp only
      go_wp2_with fail
      go_ret
      exact ⟨rfl, up (up HB.out B6.out) hBz⟩
    | true =>
    obtain ⟨L, T, hleg, hT⟩ := HLG.out rfl rfl
    obtain ⟨hbdd, hmv, t, ht, hTt⟩ := HALL.out L T hleg hT
    have HAP := hid (HAPP.out w6 B6.out hbdd)
    rw [hmv] at HAP
    have HT2 := hid ht
    have HTT := hid hTt
    clear hleg hT hmv hbdd hTt ht HLG
    go_wp2_with fail
    refine HAP.out.mono ?_
    rintro e w7 ⟨db, dc2, rfl, hown, hB7⟩
    have HD7 := hid (owns_intsN hown (vecOf_len _ _) (by have := HN.out; omega))
    have B7 := hid (up B6.out hB7)
    have C7 := hid (up C6.out hB7)
    clear hB7 c0 c1 d0 d1 d2 d3 lg lx hown HAP
    obtain ⟨⟨c0, c1⟩, ⟨d0, d1, d2, d3⟩, lg, lx⟩ := HCC.out w7 B7.out
    dsimp only
    go_wp2_with fail
    refine (HST.out _ _ w7 B7.out HD7.out).mono ?_
    rintro e w8 hr
    rw [HT2.out] at hr
    obtain ⟨hB8, b1, c3, b2, c4, rfl, ho1, ho2⟩ := hr
    have HO2 := hid ho2
    have B8 := hid (up B7.out hB8)
    have C8 := hid (up C7.out hB8)
    clear hB8 c0 c1 d0 d1 d2 d3 lg lx ho1 ho2 HD7
    obtain ⟨⟨c0, c1⟩, ⟨d0, d1, d2, d3⟩, lg, lx⟩ := HCC.out w8 B8.out
    dsimp only
    go_wp2_with fail
    go_loopw [132] (fun iv wr => ∃ v : Nat, v ≤ N ∧ iv = .int .i64 v ∧ Hid (Below w8.heap.size w8 wr)) (fun iv _ => N - (intOf iv).toNat)
    case atStart => exact ⟨0, Nat.zero_le _, rfl, Below.refl _ _⟩
    case round =>
      clear c0 c1 d0 d1 d2 d3 lg lx
      obtain ⟨v, hv, rfl, HBv2⟩ := hrel
      obtain ⟨W9, rfl⟩ : ∃ W : World, W = wr := ⟨_, rfl⟩
      have B9 := hid (up B8.out HBv2.out)
      have C9 := hid (up C8.out HBv2.out)
      have HO9 := hid (owns_below HO2.out HBv2.out)
      obtain ⟨⟨c0, c1⟩, ⟨d0, d1, d2, d3⟩, lg, lx⟩ := HCC.out W9 B9.out
      by_cases hvN2 : v < N
      · obtain ⟨bz, zo, rfl, hbz, x1⟩ := HXC.out W9 B9.out v hvN2
        have x2 := (C9.out.cell (p := ⟨sb, so + v, none⟩) HSBL.out).trans (HSC.out v hvN2)
        have lz : sb < W9.heap.size := Nat.lt_of_lt_of_le HSBL.out C9.out.size
        have x3 := owns_int HO9.out v hvN2
        rw [vecOf_get _ _ _ hvN2] at x3
        have ly := (owns_lt HO9.out).2
        have heq := HTT.out v hvN2
        have htb := HTB.out v hvN2
        have hvn : (v : Int) < (N : Int) := by omega
        have hvs : (v : Int) < (ss.length : Int) := by have := HSL.out; omega
        have hv0 : (0 : Int) ≤ (v : Int) := by omega
        have wv : IntKind.i64.wrap ((v : Int) + 1) = (v : Int) + 1 := IntWalk.i64_in _ (by have := HN.out; omega)
        generalize dOf ss v = x at *
        generalize r.T v = y at *
        generalize t.T v = z at *
        have wz : IntKind.i64.wrap (x + z) = y := by rw [heq]; exact IntWalk.i64_in _ (by omega)
        have hyy : (y != y) = false := by simp
        clear heq htb
        let S : World → Prop := fun w' => w'.cell? ⟨w.heap.size + 1, 3, none⟩ = some (.slice (some ⟨bz, zo, none⟩) ss.length sc) ∧ w'.cell? ⟨bz, zo + v, none⟩ = some (.int .i64 x) ∧ w'.cell? ⟨sb, so + v, none⟩ = some (.int .i64 y) ∧ w'.cell? ⟨b2, v, none⟩ = some (.int .i64 z)
        have hS0 : S W9.drew := ⟨d3, x1, x2, x3⟩
        go_wp2_with fail
        (refine wp_region_text 14 [0,1,2,3,4,5,6,7,8,9,10,11,12,13] S (by kernel_rfl) (by kernel_rfl) (by intro _ _ d _ _ h; cases d <;> exact h) ?hS ?_; rotate_left; simp only [List.map_cons, List.map_nil, List.getD_cons_zero, List.getD_cons_succ, List.drop_succ_cons, List.drop_zero])
        case hS => exact hS0
        (repeat ((refine' wpSeq_take rfl _ (by rfl) ?_ ?_; rotate_left; focus (intro w' hS; (try dsimp only at hS); obtain ⟨s1, s2, s3, s4⟩ := hS; go_simp; (first | done | with_reducible rfl)); (try simp only [Act.put, List.setIfInBounds_toArray, List.set_cons_zero, List.set_cons_succ])); (try simp only [Act.put, List.setIfInBounds_toArray, List.set_cons_zero, List.set_cons_succ])))
        refine wpSeq_nil ?_
        clear hS0 S
        go_wp2_with fail
        go_roundw
        case rel => exact ⟨v + 1, by omega, by go_num, HBv2.out.drew⟩
        case measure => simp [intOf]; omega
      · have hvl2 : ¬ (v : Int) < (N : Int) := by omega
        go_wp2_with fail
        refine (hCP.out _).mono ?_
        rintro e wz ⟨rfl, hBz⟩
        dsimp only
        go_wp2_with fail
        go_ret
        exact ⟨rfl, up (up HB.out B9.out) hBz⟩

end Go.Proofs.YtbjoblkigbphhaaGreat
