/-
  ScheduleDrops: for every graph, every divisor and every plan the law returns true, and its arguments read as before. No conditions beyond the row's own.
-/
import Derived.Test.YtlhbgainpeehoaaAb3
namespace Go.Proofs.Ytlhbgainpeehoaa
open Go.RowKit

theorem runp_small {g : G} {q : Int} {ds : List Int} {l : List (Int × Int)} (s : St) (h : runR g q ds l = .inr s) : g.n.toNat ≤ 1000000 := by
  by_cases hg : runErr g q ds l = 0
  · have hc : checkErr g = 0 := (cfg_ok (run_ok hg).1).1
    unfold checkErr at hc
    split at hc <;> omega
  · unfold runR at h; rw [if_pos hg] at h; cases h
theorem stabp_small {g : G} {q : Int} {ds : List Int} (s : St) (h : stabR g q ds = .inr s) : g.n.toNat ≤ 1000000 := by
  by_cases hg : cfgErr g q ds = 0
  · have hc : checkErr g = 0 := (cfg_ok hg).1
    unfold checkErr at hc
    split at hc <;> omega
  · unfold stabR at h; rw [if_pos hg] at h; cases h
/-- A row that holds a vector. -/
theorem ints_vec {w : World} {v : Value} {N : Nat} {f : Nat → Int} (h : IntsR w v (vecOf N f)) (hN : 0 < N) : ∃ b off cap, v = .slice (some ⟨b, off, none⟩) N cap ∧ b < w.heap.size ∧ ∀ u, u < N → w.cell? ⟨b, off + u, none⟩ = some (.int .i64 (f u)) := by
  obtain ⟨a, cap, rfl, _, _, _, hc⟩ := h
  obtain ⟨b, off, rfl, hb, hcs⟩ := hc.int (by rw [vecOf_len]; exact hN)
  refine ⟨b, off, cap, by rw [vecOf_len], hb, fun u hu => ?_⟩
  rw [hcs u (by rw [vecOf_len]; exact hu), vecOf_get _ _ _ hu]

set_option maxRecDepth 100000 in
set_option maxHeartbeats 8000000 in
theorem l_Drops (g : G) (gv : Value) (ds : List Int) (dv : Value) (q : Int) (l : List (Int × Int)) (lv : Value) (ps : List Int) (pv : Value) (w : World) (hg : GrR w gv g) (hd : IntsR w dv ds) (hl : PairsR w lv l) (hp : IntsR w pv ps) :
    Calls Try.prog 9 #[gv, dv, .agg #[.int .i64 q, lv, pv]] w fun e w' => e = .returned (.bool true) ∧ Below w.heap.size w w' := by
  have hg' := hg
  have hl' := hl
  have hp' := hp
  obtain ⟨ev, rfl, a, cap, rfl, hcap, hcm, hlen, hc⟩ := hg'
  obtain ⟨la, lc, rfl, _, _, _, hlc⟩ := hl'
  obtain ⟨pa, pc, rfl, _⟩ := hp'
  obtain ⟨W1, hW1⟩ : ∃ W : World, W = (w.alloc (.cells #[.int .i64 g.n, .slice a g.es.length cap] 24)).alloc (.cells #[.int .i64 q, .slice la l.length lc, .slice pa ps.length pc] 29) := ⟨_, rfl⟩
  have hB : Below w.heap.size w W1 := by rw [hW1]; exact ((Below.refl _ _).alloc (Nat.le_refl _) _).alloc (by simp) _
  have bG : Hid (Blk W1 w.heap.size #[.int .i64 g.n, .slice a g.es.length cap] 24) := by rw [hW1]; exact (Blk.new _ _ _).alloc _
  have bX' : Blk W1 (w.heap.size + 1) #[.int .i64 q, .slice la l.length lc, .slice pa ps.length pc] 29 := by rw [hW1]; have := Blk.new (w.alloc (.cells #[.int .i64 g.n, .slice a g.es.length cap] 24)) #[.int .i64 q, .slice la l.length lc, .slice pa ps.length pc] 29; simpa using this
  have bX := hid bX'
  clear bX'
  have hG := hid (hg.below hB)
  have hD := hid (hd.below hB)
  have hL := hid (hl.below hB)
  have hP := hid (hp.below hB)
  have HB := hid hB
  have HLC := hid (hlc.below hB)
  have c0 := bG.out.cell 0
  have c1 := bG.out.cell 1
  have c2 := bX.out.cell 0
  have c3 := bX.out.cell 1
  have c4 := bX.out.cell 2
  have hsm := hid (fun s h => runp_small (g := g) (q := q) (ds := ds) (l := l) s h)
  clear hg hd hl hp hB hlc
  go_enter Try.func9, Try.ntmps9
  go_wp2_with fail
  rw [← hW1]
  clear hW1
  let S : World → Prop := fun w' => w'.cell? ⟨w.heap.size, 0, none⟩ = some (.int .i64 g.n) ∧ w'.cell? ⟨w.heap.size, 1, none⟩ = some (.slice a g.es.length cap) ∧ w'.cell? ⟨w.heap.size + 1, 0, none⟩ = some (.int .i64 q) ∧ w'.cell? ⟨w.heap.size + 1, 1, none⟩ = some (.slice la l.length lc) ∧ w'.cell? ⟨w.heap.size + 1, 2, none⟩ = some (.slice pa ps.length pc)
  have hSk : Hid (∀ W, Below W1.heap.size W1 W → S W) := fun W h => ⟨(bG.out.below h).cell 0, (bG.out.below h).cell 1, (bX.out.below h).cell 0, (bX.out.below h).cell 1, (bX.out.below h).cell 2⟩
  clear c0 c1 c2 c3 c4
  (refine wp_region_text 18 [0,1,2,3,4,5,6,7,8,9,10,11,12,13,14,15,16,17] S (by kernel_rfl) (by kernel_rfl) (by intro _ _ d _ _ h; cases d <;> exact h) ?hS ?_; rotate_left; simp only [List.map_cons, List.map_nil, List.getD_cons_zero, List.getD_cons_succ, List.drop_succ_cons, List.drop_zero])
  case hS => exact hSk.out _ (Below.drew (Below.refl _ _))
  (repeat (refine' wpSeq_take rfl _ (by rfl) ?_ ?_; rotate_left; focus (intro w' hS; (try dsimp only at hS); obtain ⟨s1, s2, s3, s4, s5⟩ := hS; go_simp; (first | done | with_reducible rfl)); (try simp only [Act.put, List.setIfInBounds_toArray, List.set_cons_zero, List.set_cons_succ])))
  have k0 := hid (Below.drew (Below.refl W1.heap.size W1))
  refine wpSeq_call rfl (by rfl) (fun K hK => ?_)
  go_simp
  refine (l_small g _ ds _ q l _ ps _ _ (hG.out.below k0.out) (hD.out.below k0.out) (hL.out.below k0.out) (hP.out.below k0.out)).mono ?_
  rintro e w1 ⟨rfl, hB1⟩
  have KK := hid (up k0.out hB1)
  refine hK _ _ (hSk.out _ KK.out) ?_
  clear hK K hB1 k0
  cases hf : smallL g q ds l ps with
  | false =>
    (repeat (refine' wpSeq_take rfl _ (by rfl) ?_ ?_; rotate_left; focus (intro w' hS; (try dsimp only at hS); obtain ⟨s1, s2, s3, s4, s5⟩ := hS; go_simp; (first | done | with_reducible rfl)); (try simp only [Act.put, List.setIfInBounds_toArray, List.set_cons_zero, List.set_cons_succ])))
    (repeat (refine wpSeq_skip (by rfl) ?_; (try simp only [Act.put, List.setIfInBounds_toArray, List.set_cons_zero, List.set_cons_succ])))
    (repeat (refine' wpSeq_take rfl _ (by rfl) ?_ ?_; rotate_left; focus (intro w' hS; (try dsimp only at hS); obtain ⟨s1, s2, s3, s4, s5⟩ := hS; go_simp; (first | done | with_reducible rfl)); (try simp only [Act.put, List.setIfInBounds_toArray, List.set_cons_zero, List.set_cons_succ])))
    (repeat (refine wpSeq_skip (by rfl) ?_; (try simp only [Act.put, List.setIfInBounds_toArray, List.set_cons_zero, List.set_cons_succ])))
    refine wpSeq_nil ?_
    clear S hSk
    go_wp2_with fail
    (refine (l_awake _).mono ?_; rintro e wz ⟨rfl, hBz⟩; go_simp; go_wp2_with fail; go_ret; exact ⟨rfl, up (up HB.out KK.out) hBz⟩)
  | true =>
  have hff : cfgErr g q ds = 0 ∧ small17 ds = true := by
    unfold smallL at hf
    simp only [Bool.and_eq_true, beq_iff_eq] at hf
    exact ⟨hf.1.1.2, hf.1.2⟩
  have HFF := hid hff
  clear hf hff
  (repeat (refine' wpSeq_take rfl _ (by rfl) ?_ ?_; rotate_left; focus (intro w' hS; (try dsimp only at hS); obtain ⟨s1, s2, s3, s4, s5⟩ := hS; go_simp; (first | done | with_reducible rfl)); (try simp only [Act.put, List.setIfInBounds_toArray, List.set_cons_zero, List.set_cons_succ])))
  refine wpSeq_call rfl (by rfl) (fun K hK => ?_)
  go_simp
  refine (l_events l _ _ (hL.out.below KK.out)).mono ?_
  rintro e w2 ⟨v2, rfl, hP2, hB2⟩
  have K2 := hid (up KK.out hB2)
  refine hK _ _ (hSk.out _ K2.out) ?_
  clear hK K hB2 KK
  refine wpSeq_call rfl (by rfl) (fun K hK => ?_)
  go_simp
  refine (r21_Check g _ l _ _ (hG.out.below K2.out) hP2).mono ?_
  rintro e w3 ⟨rfl, hB3⟩
  have KK := hid (up K2.out hB3)
  refine hK _ _ (hSk.out _ KK.out) ?_
  clear hK K hB3 K2 hP2
  by_cases hsc : schErr g l = 0
  case neg =>
    have hb : (schErr g l != 0) = true := by simpa using hsc
    clear hsc
    generalize schErr g l = zz at *
    (repeat (refine' wpSeq_take rfl _ (by rfl) ?_ ?_; rotate_left; focus (intro w' hS; (try dsimp only at hS); obtain ⟨s1, s2, s3, s4, s5⟩ := hS; go_simp; (first | done | with_reducible rfl)); (try simp only [Act.put, List.setIfInBounds_toArray, List.set_cons_zero, List.set_cons_succ])))
    (repeat (refine wpSeq_skip (by rfl) ?_; (try simp only [Act.put, List.setIfInBounds_toArray, List.set_cons_zero, List.set_cons_succ])))
    (repeat (refine' wpSeq_take rfl _ (by rfl) ?_ ?_; rotate_left; focus (intro w' hS; (try dsimp only at hS); obtain ⟨s1, s2, s3, s4, s5⟩ := hS; go_simp; (first | done | with_reducible rfl)); (try simp only [Act.put, List.setIfInBounds_toArray, List.set_cons_zero, List.set_cons_succ])))
    refine wpSeq_nil ?_
    clear S hSk
    go_wp2_with fail
    (refine (l_awake _).mono ?_; rintro e wz ⟨rfl, hBz⟩; go_simp; go_wp2_with fail; go_ret; exact ⟨rfl, up (up HB.out KK.out) hBz⟩)
  have hev : evsErr g l = 0 := by
    have hk := (cfg_ok HFF.out.1).1
    unfold schErr at hsc
    rw [if_neg (by unfold Gok at hk; simpa using hk)] at hsc
    exact hsc
  have HEV := hid hev
  rw [hsc]
  clear hsc hev
  (repeat (refine' wpSeq_take rfl _ (by rfl) ?_ ?_; rotate_left; focus (intro w' hS; (try dsimp only at hS); obtain ⟨s1, s2, s3, s4, s5⟩ := hS; go_simp; (first | done | with_reducible rfl)); (try simp only [Act.put, List.setIfInBounds_toArray, List.set_cons_zero, List.set_cons_succ])))
  refine wpSeq_nil ?_
  by_cases hl60 : 60 < l.length
  · have h60 : (60 : Int) < (l.length : Int) := by omega
    clear hl60 S hSk
    go_wp2_with fail
    (refine (l_awake _).mono ?_; rintro e wz ⟨rfl, hBz⟩; go_simp; go_wp2_with fail; go_ret; exact ⟨rfl, up (up HB.out KK.out) hBz⟩)
  have h60 : ¬ (60 : Int) < (l.length : Int) := by omega
  obtain ⟨s, hs1, hs2, hs3, hs4⟩ := drops_law HFF.out.1 HEV.out (by omega) HFF.out.2
  have HS1 := hid hs1
  have HS2 := hid hs2
  have HS3 := hid hs3
  have HS4 := hid hs4
  obtain ⟨hk, hq0, hqn, hdl, _, _⟩ := cfg_ok HFF.out.1
  have hn := hk.n
  have HEk := hid (evs_ok HEV.out).2
  obtain ⟨N, hN⟩ : ∃ N, N = g.n.toNat := ⟨_, rfl⟩
  have hN1 : (N : Int) ≤ g.n := by omega
  have hN2 : g.n ≤ (N : Int) := by omega
  have HN0 : Hid (0 < N) := by show _ < _; omega
  have HN12 : Hid (N ≤ 12) := by show _ ≤ _; omega
  have hdN : ds = vecOf N (dAll (dOf ds) l 0) := by
    have h := vecOf_self ds
    rw [show ds.length = N by omega] at h
    exact h.symm
  have hcl := hid (fun (w4 : World) (h : Below W1.heap.size W1 w4) => c_Clone ds dv w4 (hD.out.below h) (by omega))
  rw [show ds.length = N by omega] at hcl
  have HDV : Hid (ds = vecOf N (dAll (dOf ds) l 0)) := hdN
  rw [← hN] at HS2 HS3 HS4
  have hri := hid (fun (w4 w5 : World) (e : Ending) (h : RetTri 3 w4 g.n.toNat (runR g q ds l) e w5) => tri_ints hsm.out h)
  rw [HS1.out, ← hN] at hri
  have hst := hid (fun (F : Nat → Int) (v4 : Value) (w4 : World) (h : Below W1.heap.size W1 w4) (hv : IntsR w4 v4 (vecOf N F)) => p_Stabilize g _ q (vecOf N F) v4 w4 (hG.out.below h) hv)
  have hsi := hid (fun (F : Nat → Int) (w4 w5 : World) (e : Ending) (h : RetTri 3 w4 g.n.toNat (stabR g q (vecOf N F)) e w5) => tri_ints (fun s h => stabp_small s h) h)
  rw [← hN] at hst hsi
  have HK := hid hk
  have HN := hid hN
  have hCk : Hid (∀ W, Below W1.heap.size W1 W → W.cell? ⟨w.heap.size, 0, none⟩ = some (.int .i64 g.n) ∧ W.cell? ⟨w.heap.size, 1, none⟩ = some (.slice a g.es.length cap) ∧ W.cell? ⟨w.heap.size + 1, 0, none⟩ = some (.int .i64 q) ∧ W.cell? ⟨w.heap.size + 1, 1, none⟩ = some (.slice la l.length lc)) := fun W h => ⟨(bG.out.below h).cell 0, (bG.out.below h).cell 1, (bX.out.below h).cell 0, (bX.out.below h).cell 1⟩
  clear hN hl60 hk hq0 hqn hdl hn hs1 hs2 hs3 hs4 hdN hsm hSk
  clear S
  go_wp2_with fail
  refine (hcl.out _ KK.out).mono ?_
  rintro e w4 ⟨ba, ca, rfl, hO, hB4⟩
  rw [HDV.out] at hO
  have HO := hid hO
  have HB4 := hid hB4
  obtain ⟨_, _, _, x1⟩ := hCk.out w4 (up KK.out hB4)
  clear hO hB4 hcl
  go_simp
  go_wp2
  go_loopw [44] (fun i wr => ∃ k : Nat, k ≤ l.length ∧ i = .int .i64 k ∧ Hid (wr.ownsRow w3.heap.size 3 1 (.slice (some ⟨ba, 0, none⟩) N ca) N ((vecOf N (dAll (dOf ds) l k)).map (Value.int .i64))) ∧ Hid (Below w3.heap.size w3 wr)) (fun i _ => l.length - (intOf i).toNat)
  case atStart => exact ⟨0, Nat.zero_le _, rfl, HO, HB4⟩
  case round =>
    clear HO HB4 x1
    obtain ⟨k, hkl, rfl, HO, HBr⟩ := hrel
    obtain ⟨Wr, rfl⟩ : ∃ W : World, W = wr := ⟨_, rfl⟩
    have KR := hid (KK.out.trans (HBr.out.mono KK.out.size))
    by_cases hlt : k < l.length
    · obtain ⟨b', off', rfl, hb', hcc⟩ := (HLC.out.below KR.out).pair (by omega)
      obtain ⟨c1, c2⟩ := hcc k hlt
      have hhx := HEk.out k hlt
      have HDS : Hid (∀ u, dAll (dOf ds) l (k + 1) u = if (l[k]?.getD (0, 0)).1 = 1 ∧ u = (l[k]?.getD (0, 0)).2.toNat then dAll (dOf ds) l k u + 1 else dAll (dOf ds) l k u) := fun u => rfl
      have hAb := hid (fun u => dAll_mono (dOf ds) l u 0 k (Nat.zero_le _))
      have hlt' : (k : Int) < (l.length : Int) := by omega
      have hk0 : (0 : Int) ≤ (k : Int) := by omega
      have wk : IntKind.i64.wrap ((k : Int) + 1) = (k : Int) + 1 := IntWalk.i64_in _ (by omega)
      have hbl := (owns_lt HO.out).2
      have hbs := HBr.out.size
      clear hcc
      generalize l[k]?.getD (0, 0) = x at *
      obtain ⟨kd, vl⟩ := x
      dsimp only at c1 c2 hhx HDS
      by_cases hkd : kd = 1
      · have hkb : (kd == 1) = true := by rw [hkd]; rfl
        obtain ⟨V, rfl⟩ := Int.eq_ofNat_of_zero_le hhx.2.1
        have hVN : V < N := by have := hhx.2.2 hkd; omega
        have hV1 : (V : Int) < (N : Int) := by omega
        have hV0 : (0 : Int) ≤ (V : Int) := by omega
        have cv := owns_int HO.out V hVN
        rw [vecOf_get _ _ _ hVN] at cv
        have fv := HO.out.frozenAt V
        have hdb : -1048576 ≤ dOf ds V ∧ dOf ds V ≤ 1048576 := by
          have hcf := cfg_ok HFF.out.1
          have hu' : V < ds.length := by omega
          have := hcf.2.2.2.2.1 _ (List.getElem_mem hu')
          unfold dOf
          rw [List.getElem?_eq_getElem hu']
          exact this
        have hAV := hAb.out V
        have hA0 : dAll (dOf ds) l 0 V = dOf ds V := rfl
        rw [hA0] at hAV
        have HE2 : Hid (vecOf N (fun i => if i = V then dAll (dOf ds) l k V + 1 else dAll (dOf ds) l k i) = vecOf N (dAll (dOf ds) l (k + 1))) := by
          show _ = _
          refine vecOf_congr _ _ _ fun u _ => ?_
          rw [HDS.out u]
          by_cases e : u = V
          · subst e; rw [if_pos rfl, if_pos ⟨hkd, by omega⟩]
          · rw [if_neg e, if_neg (fun h => e (by omega))]
        have HO2 : Hid (((Wr.setCell ⟨ba, V, none⟩ (.int .i64 (dAll (dOf ds) l k V + 1))).alloc (.cells #[.int .i64 kd, .int .i64 V] 64)).ownsRow w3.heap.size 3 1 (.slice (some ⟨ba, 0, none⟩) N ca) N ((vecOf N (dAll (dOf ds) l (k + 1))).map (Value.int .i64))) := by
          have h := owns_set (f := Value.int .i64) HO.out V (dAll (dOf ds) l k V + 1)
          rw [vecOf_set, HE2.out] at h
          exact h.alloc _
        have HB2 : Hid (Below w3.heap.size w3 ((Wr.setCell ⟨ba, V, none⟩ (.int .i64 (dAll (dOf ds) l k V + 1))).alloc (.cells #[.int .i64 kd, .int .i64 V] 64))) := (HBr.out.setCell (p := ⟨ba, V, none⟩) (by exact (owns_lt HO.out).1) _).alloc (by simpa using hbs) _
        clear HE2 HDS hhx hA0 hAb hkd
        generalize dAll (dOf ds) l k V = y at *
        have ww : IntKind.i64.wrap (y + 1) = y + 1 := IntWalk.i64_in _ (by omega)
        have hbn : ¬ ba = Wr.heap.size := by omega
        have hbn2 : ¬ Wr.heap.size = ba := by omega
        clear hAV hdb
        go_wp2
        go_roundw
        case rel => exact ⟨k + 1, by omega, by go_num, HO2, HB2⟩
        case measure => simp [intOf]; omega
      · have hkb : (kd == 1) = false := by rw [beq_eq_false_iff_ne]; exact hkd
        have HE2 : Hid (vecOf N (dAll (dOf ds) l k) = vecOf N (dAll (dOf ds) l (k + 1))) := by
          show _ = _
          refine vecOf_congr _ _ _ fun u _ => ?_
          rw [HDS.out u, if_neg (fun h => hkd h.1)]
        have HO2 : Hid ((Wr.alloc (.cells #[.int .i64 kd, .int .i64 vl] 64)).ownsRow w3.heap.size 3 1 (.slice (some ⟨ba, 0, none⟩) N ca) N ((vecOf N (dAll (dOf ds) l (k + 1))).map (Value.int .i64))) := by
          have h := HO.out.alloc (.cells #[.int .i64 kd, .int .i64 vl] 64)
          rw [HE2.out] at h
          exact h
        have HB2 : Hid (Below w3.heap.size w3 (Wr.alloc (.cells #[.int .i64 kd, .int .i64 vl] 64))) := HBr.out.alloc hbs _
        clear HE2 HDS hhx hAb hkd
        go_wp2
        go_roundw
        case rel => exact ⟨k + 1, by omega, by go_num, HO2, HB2⟩
        case measure => simp [intOf]; omega
    · have e : k = l.length := by omega
      subst e
      have hlt' : ¬ (l.length : Int) < (l.length : Int) := by omega
      obtain ⟨g0, g1, x0, x1⟩ := hCk.out Wr KR.out
      have HAll := hid (owns_intsN HO.out (vecOf_len _ _) (by have := HN12.out; omega))
      clear HBr KK HLC HEk HO
      have KK := KR
      clear KR
      go_wp2_with fail
      refine (p_Run g _ q ds _ l _ _ (hG.out.below KK.out) (hD.out.below KK.out) (hL.out.below KK.out)).mono ?_
      rintro e w5 hr
      rw [HS1.out, ← HN.out] at hr
      obtain ⟨hB5, va, vs, rfl, ia, is⟩ := hri.out _ _ _ hr
      have ia' : IntsR w5 va (vecOf N s.L) := ia
      have is' : IntsR w5 vs (vecOf N s.T) := is
      have HA := hid ia'
      have HSc := hid is'
      have HAll5 := hid (HAll.out.below hB5)
      have K5 := hid (up KK.out hB5)
      rw [show triK (.inr s : Int ⊕ St) = 0 from rfl]
      obtain ⟨g0', g1', x0', x1'⟩ := hCk.out w5 K5.out
      clear hr hB5 ia is ia' is' g0 g1 x0 x1 KK HAll hri
      go_simp
      go_wp2_with fail
      refine (r19_Check g _ q (vecOf N s.L) va _ (hG.out.below K5.out) HA.out).mono ?_
      rintro e w6 ⟨rfl, hB6⟩
      rw [HS2.out]
      have K6 := hid (up K5.out hB6)
      have HA6 := hid (HA.out.below hB6)
      have HS6 := hid (HSc.out.below hB6)
      have HAll6 := hid (HAll5.out.below hB6)
      obtain ⟨g0, g1, x0, x1⟩ := hCk.out w6 K6.out
      clear hB6 K5 HA HSc HAll5 g0' g1' x0' x1'
      go_simp
      go_wp2_with fail
      refine (hst.out s.L va w6 K6.out HA6.out).mono ?_
      rintro e w7 hr
      obtain ⟨hB7, vb, vt, rfl, ib, it⟩ := hsi.out _ _ _ _ hr
      have K7 := hid (up K6.out hB7)
      have HS7 := hid (HS6.out.below hB7)
      have HAll7 := hid (HAll6.out.below hB7)
      have HIb := hid ib
      have HIt := hid it
      obtain ⟨g0', g1', x0', x1'⟩ := hCk.out w7 K7.out
      clear hr hB7 ib it K6 HA6 HS6 HAll6 g0 g1 x0 x1
      go_simp
      go_wp2_with fail
      refine (hst.out _ _ w7 K7.out HAll7.out).mono ?_
      rintro e w8 hr
      obtain ⟨hB8, vc, vu, rfl, ic, iu⟩ := hsi.out _ _ _ _ hr
      have KK := hid (up K7.out hB8)
      have HS8 := hid (HS7.out.below hB8)
      have HIb8 := hid (HIb.out.below hB8)
      have HIt8 := hid (HIt.out.below hB8)
      have HIc := hid ic
      have HIu := hid iu
      obtain ⟨g0, g1, x0, x1⟩ := hCk.out w8 KK.out
      clear hr hB8 ic iu K7 HS7 HAll7 HIb HIt g0' g1' x0' x1'
      have HW3 := HS3.out
      have HW4 := HS4
      clear HS3 HS4
      by_cases h1 : triK (stabR g q (vecOf N s.L)) = 0
      case neg =>
        have h2 := HW3 (.inl h1)
        rw [h2]
        have hb1 : (triK (stabR g q (vecOf N s.L)) != 0) = true := by simpa using h1
        clear HW3 HW4 h1 h2
        generalize triK (stabR g q (vecOf N s.L)) = kk at *
        go_simp
        go_wp2_with fail
        (refine (l_awake _).mono ?_; rintro e wz ⟨rfl, hBz⟩; go_simp; go_wp2_with fail; go_ret; exact ⟨rfl, up (up HB.out KK.out) hBz⟩)
      by_cases h2 : triK (stabR g q (vecOf N (dAll (dOf ds) l l.length))) = 0
      case neg =>
        have h3 := HW3 (.inr h2)
        rw [h3, h1]
        clear HW3 HW4 h1 h2 h3
        go_simp
        go_wp2_with fail
        (refine (l_awake _).mono ?_; rintro e wz ⟨rfl, hBz⟩; go_simp; go_wp2_with fail; go_ret; exact ⟨rfl, up (up HB.out KK.out) hBz⟩)
      obtain ⟨r1, r2, e1, e2, hT, hL', hTb⟩ := HW4.out h1 h2
      rw [h1, h2]
      rw [e1] at HIb8 HIt8
      rw [e2] at HIc HIu
      have HT := hid hT
      have HTb := hid hTb
      have hLe : vecOf N r2.L = vecOf N r1.L := vecOf_congr _ _ _ fun u hu => (hL' u hu).symm
      have HJb : Hid (IntsR w8 vb (vecOf N r1.L)) := HIb8.out
      have HJt : Hid (IntsR w8 vt (vecOf N r1.T)) := HIt8.out
      have HJc : Hid (IntsR w8 vc (vecOf N r1.L)) := by have h := HIc.out; show IntsR _ _ _; rw [← hLe]; exact h
      have HJu : Hid (IntsR w8 vu (vecOf N r2.T)) := HIu.out
      clear HW3 HW4 h1 h2 e1 e2 hT hL' hTb hLe HIb8 HIt8 HIc HIu
      obtain ⟨bs, os, cs, rfl, hbs, hcs⟩ := ints_vec HS8.out HN0.out
      obtain ⟨bt, ot, ct, rfl, hbt, hct⟩ := ints_vec HJt.out HN0.out
      obtain ⟨bu, ou, cu, rfl, hbu, hcu⟩ := ints_vec HJu.out HN0.out
      have HCs := hid hcs
      have HCt := hid hct
      have HCu := hid hcu
      have hNb : ((N : Int) != g.n) = false := by simp; omega
      clear hcs hct hcu HS8 HJt HJu
      go_simp
      go_wp2_with fail
      refine (r17_Same_eq (vecOf N r1.L) vb vc w8 HJb.out HJc.out (by rw [vecOf_len]; have := HN12.out; omega)).mono ?_
      rintro e w9 ⟨rfl, hB9⟩
      have HB9 := hid hB9
      clear hB9 g0 g1 x0 x1 HJb HJc
      go_simp
      go_wp2
      go_loopw [136] (fun i wr => ∃ k : Nat, k ≤ N ∧ i = .int .i64 k ∧ Hid (Below w8.heap.size w8 wr)) (fun i _ => N - (intOf i).toNat)
      case atStart => exact ⟨0, Nat.zero_le _, rfl, HB9⟩
      case round =>
        clear HB9
        obtain ⟨k, hkN, rfl, HBr⟩ := hrel
        obtain ⟨Wq, rfl⟩ : ∃ W : World, W = wr := ⟨_, rfl⟩
        by_cases hk : k < N
        · have d1 := (HBr.out.cell (p := ⟨bs, os + k, none⟩) hbs).trans (HCs.out k hk)
          have d2 := (HBr.out.cell (p := ⟨bt, ot + k, none⟩) hbt).trans (HCt.out k hk)
          have d3 := (HBr.out.cell (p := ⟨bu, ou + k, none⟩) hbu).trans (HCu.out k hk)
          have hTk := HT.out k hk
          have hTbk := HTb.out k hk
          rw [← hTk] at d3 hTbk
          have wk : IntKind.i64.wrap ((k : Int) + 1) = (k : Int) + 1 := IntWalk.i64_in _ (by have := HN12.out; omega)
          have hk1 : (k : Int) < (N : Int) := by omega
          have hk0 : (0 : Int) ≤ (k : Int) := by omega
          clear hTk
          generalize s.T k = xx at *
          generalize r1.T k = yy at *
          have ww : IntKind.i64.wrap (xx + yy) = xx + yy := IntWalk.i64_in _ (by omega)
          have hne : ((xx + yy) != (xx + yy)) = false := by simp
          clear hTbk
          go_wp2
          let S : World → Prop := fun w' => w'.cell? ⟨bs, os + k, none⟩ = some (.int .i64 xx) ∧ w'.cell? ⟨bt, ot + k, none⟩ = some (.int .i64 yy) ∧ w'.cell? ⟨bu, ou + k, none⟩ = some (.int .i64 (xx + yy))
          (refine wp_region_text 13 [0,1,2,3,4,5,6,7,8,9,10,11,12] S (by kernel_rfl) (by kernel_rfl) (by intro _ _ d _ _ h; cases d <;> exact h) ?hS ?_; rotate_left; simp only [List.map_cons, List.map_nil, List.getD_cons_zero, List.getD_cons_succ, List.drop_succ_cons, List.drop_zero])
          case hS => exact ⟨d1, d2, d3⟩
          (repeat (refine' wpSeq_take rfl _ (by rfl) ?_ ?_; rotate_left; focus (intro w' hS; (try dsimp only at hS); obtain ⟨s1, s2, s3⟩ := hS; go_simp; (first | done | with_reducible rfl)); (try simp only [Act.put, List.setIfInBounds_toArray, List.set_cons_zero, List.set_cons_succ])))
          refine wpSeq_nil ?_
          clear S d1 d2 d3
          go_wp2_with fail
          go_roundw
          case rel => exact ⟨k + 1, by omega, by go_num, HBr.out.drew⟩
          case measure => simp [intOf]; omega
        · have e : k = N := by omega
          subst e
          have hk1 : ¬ (k : Int) < (k : Int) := by omega
          have KZ := hid (up KK.out HBr.out)
          clear KK
          have KK := KZ
          go_wp2_with fail
          (refine (l_awake _).mono ?_; rintro e wz ⟨rfl, hBz⟩; go_simp; go_wp2_with fail; go_ret; exact ⟨rfl, up (up HB.out KK.out) hBz⟩)

end Go.Proofs.Ytlhbgainpeehoaa

namespace Go.Proofs.Ytlhbgainpeehoaa.ScheduleDropsLaw
open Go.ChangeShapes Go.WideShapes Go.ChangeAt Go.RowKit
set_option linter.unusedVariables false

set_option maxRecDepth 100000 in
theorem lifted (os : Os) (started : os.Started) (H : Type) (enc : TypeId × Value → H) :
    ReturnsInHanded {} Try.checked os 9 .any (Rows.scheduleDropsSpec.pre6 enc Try.prog Try.f9 Rows.scheduleDropsRow.domain false) (Rows.scheduleDropsSpec.post enc Try.prog Try.f9 false true false false) := by
  refine returnsInHanded_of_change_sized (C := Try.checked) law_own started (by kernel_rfl) Try.func9
    (ChangeSpec.witness6 (enc := enc) (C := Try.checked) false ⟨#[], #[.agg #[.int .i64 0, .slice none 0 0], .slice none 0 0, .agg #[.int .i64 0, .slice none 0 0, .slice none 0 0]], []⟩ 8 (by kernel_rfl) (by kernel_rfl) (by kernel_rfl) (by kernel_rfl)) ?_
  intro W base args ds gs before hval0 hW hcnd hsz0 _
  have hsz : (DataW.weightsEach Try.prog (Try.f9.params.toList ++ Rows.scheduleDropsSpec.plain.varTypes Try.prog) (ds ++ gs)).all (· ≤ reachBytes) = true := hsz0
  clear hsz0
  have hval : ∀ (j : Nat) t v, Try.f9.params[j]? = some t → args[j]? = some v → Value.okWide Try.prog W .any base t v := hval0
  have hW' := hW
  obtain ⟨p, q, hA0, hV, rfl, hfz, hnd⟩ := hW
  have hA : DataW.TrodAll enc Try.prog W 0 (fun _ => true) true Try.f9.params.toList args.toList ds p := hA0
  rw [Try.params9] at hA hval hsz
  obtain ⟨v0, v1, v2, d0, d1, d2, p0, p1, p2, rfl, rfl, rfl, h0, h1, h2⟩ := trodAll_three hA
  obtain ⟨rfl, rfl⟩ := trodVars_none hV
  have k0 := h0
  have k1 := h1
  have k2 := h2
  have lt0 : ∀ x ∈ p0, x.block < W.heap.size := by obtain ⟨m, hm⟩ := k0; exact DataW.trod_lt m _ _ _ hm
  have lt1 : ∀ x ∈ p1, x.block < W.heap.size := by obtain ⟨m, hm⟩ := k1; exact DataW.trod_lt m _ _ _ hm
  have lt2 : ∀ x ∈ p2, x.block < W.heap.size := by obtain ⟨m, hm⟩ := k2; exact DataW.trod_lt m _ _ _ hm
  obtain ⟨g, w0⟩ := reads_graph (hval 0 24 v0 rfl rfl) h0 (weigh hsz 0 _ _ rfl rfl)
  obtain ⟨a1, len1, cap1, rfl⟩ := okWide_slice und_Div (hval 1 26 v1 rfl rfl)
  obtain ⟨fuel, hf⟩ := h1
  obtain ⟨dl, w1⟩ := reads_ints und_Div (by simpa [Value.cells] using hf) (weigh hsz 1 _ _ rfl rfl)
  obtain ⟨qq, lv, pv, l, ps, rfl, w2, w3⟩ := reads_plan (hval 2 29 v2 rfl rfl) h2 (weigh hsz 2 _ _ rfl rfl)
  clear hA0 hval0
  refine (l_Drops g v0 dl _ qq l lv ps pv W w0 w1 w2 w3).mono fun e W' ⟨he, bel⟩ => ?_
  subst he
  exact ⟨_, rfl, _, _, _, [], _, [], hW', trodAll_mk1 (shut_bool und_bool _), (trodAll_cons_mk (Below.trod law_laidOut (by kernel_rfl) (of_decide_eq_true (by kernel_rfl)) k0 bel lt0) (trodAll_cons_mk (Below.trod law_laidOut (by kernel_rfl) (of_decide_eq_true (by kernel_rfl)) k1 bel lt1) (trodAll_cons_mk (Below.trod law_laidOut (by kernel_rfl) (of_decide_eq_true (by kernel_rfl)) k2 bel lt2) trodAll_mk0))), rfl, bel.frame _, fun h => by cases h⟩

theorem over : Rows.scheduleDropsRow.holds Try.pinned (OpenSpec.ofChange Rows.scheduleDropsSpec) :=
  OpenClaim.holds_of_wide 9 Try.f9 rfl rfl rfl rfl rfl rfl rfl ⟨rfl, rfl, rfl, rfl, rfl⟩ rfl rfl rfl rfl rfl (by kernel_rfl) Try.func9 (by kernel_rfl)
    (of_decide_eq_true (by kernel_rfl)) (by unfold Func.isWrapper; first | (rw [if_pos (by decide +kernel)]; kernel_rfl) | (rw [if_neg (by decide +kernel)]; exact ⟨rfl, rfl⟩))
    (fun os started H enc _ => lifted os started H enc)

theorem proved : Rows.ScheduleDropsSaid := over
#print axioms proved
end Go.Proofs.Ytlhbgainpeehoaa.ScheduleDropsLaw
