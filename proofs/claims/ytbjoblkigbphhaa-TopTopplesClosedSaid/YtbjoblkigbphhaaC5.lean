/-
  The law TopTopplesClosed, walked.
-/
import Derived.Test.YtbjoblkigbphhaaC4
import Derived.Test.YtbjoblkigbphhaaAb6
import Derived.Test.YtbjoblkigbphhaaQ11
namespace Go.Proofs.Ytbjoblkigbphhaa
set_option linter.unusedSimpArgs false
set_option linter.unusedVariables false
open Go.RowKit Go.Shelf

theorem rndTo_T_le (g : G) (q : Int) (N : Nat) (ds : List Int) : ∀ k u, (rndTo g q N (s0Of ds) k).T u ≤ 12 * k * N
  | 0, u => by show (0 : Int) ≤ _; simp
  | k + 1, u => by
    have h1 := rndTo_T_le g q N ds k u
    show (rnd g q N (rndTo g q N (s0Of ds) k)).T u ≤ _
    rw [rnd_T]
    have h2 := cntAll_le (rdyN g q N (rndTo g q N (s0Of ds) k).L) (rndTo g q N (s0Of ds) k).T u
    have h3 := rdy_len g q N (rndTo g q N (s0Of ds) k).L
    have e : 12 * ((k + 1 : Nat) : Int) * N = 12 * k * N + 12 * N := by rw [Int.natCast_add, Int.mul_add, Int.add_mul]; simp
    omega
theorem dErr_in {N : Nat} {L : Nat → Int} (hN : 0 < N ∧ N ≤ 12) (h : ∀ u, u < N → -1048576 ≤ L u ∧ L u ≤ 1048576) : dErr (vecOf N L) (vecOf N L).length = 0 := by
  unfold dErr
  rw [vecOf_len, if_neg (by omega), if_neg (by simp), if_pos]
  refine List.all_eq_true.2 fun k hk => ?_
  unfold vecOf at hk
  obtain ⟨u, hu, rfl⟩ := List.mem_map.1 hk
  have := h u (List.mem_range.1 hu)
  unfold inB
  simp
  omega

/-- What the walk needs of the rounds. -/
structure ClR (g : G) (N : Nat) (ds : List Int) (k : Nat) : Prop where
  ok : CgOk g (vecOf N (rndTo g (-1) N (s0Of ds) k).L)
  rl : ∀ v ∈ rdyN g (-1) N (rndTo g (-1) N (s0Of ds) k).L, ∃ u : Nat, v = u ∧ u < N
  ln : (rdyN g (-1) N (rndTo g (-1) N (s0Of ds) k).L).length ≤ N
  lo : ∀ u, 0 ≤ (rndTo g (-1) N (s0Of ds) k).T u
  hi : ∀ u, (rndTo g (-1) N (s0Of ds) k).T u ≤ 12 * k * N
theorem ClR.mk' {g : G} {ds : List Int} (h : CgOk g ds) {N : Nat} (hN : N = g.n.toNat) (k : Nat) : ClR g N ds k :=
  ⟨(Cg.to h hN (-1) k).ok h hN, rdy_lt g (-1) N _, rdy_len g (-1) N _, rndTo_nn g (-1) N ds k, rndTo_T_le g (-1) N ds k⟩

set_option maxRecDepth 100000 in
set_option maxHeartbeats 8000000 in
theorem l_Closed (g : G) (gv : Value) (ds : List Int) (dv : Value) (sk : Int) (hsk : 0 ≤ sk ∧ sk ≤ 255) (w : World) (hg : GrR w gv g) (hd : IntsR w dv ds) :
    Calls Try.prog 4 #[gv, dv, .int .u8 sk] w fun e w' => e = .returned (.bool true) ∧ Below w.heap.size w w' := by
  have hg' := hg
  obtain ⟨ev, rfl, _⟩ := hg'
  have hd' := hd
  obtain ⟨da, dc, rfl, _⟩ := hd'
  have hW : Below w.heap.size w (w.alloc (.cells #[.int .i64 g.n, ev] 24)) := by go_grown
  have hgr := hid (hg.below hW)
  have hdr := hid (hd.below hW)
  have HX := hid (Blk.new w #[.int .i64 g.n, ev] 24)
  generalize hW0 : w.alloc (.cells #[.int .i64 g.n, ev] 24) = W0 at *
  have c0 : W0.cell? ⟨w.heap.size, 0, none⟩ = some (.int .i64 g.n) := (HX.out.cell 0).trans rfl
  have c1 : W0.cell? ⟨w.heap.size, 1, none⟩ = some ev := (HX.out.cell 1).trans rfl
  have cl := HX.out.lt
  have HW := hid hW
  have hCP := hid (fun w => l_cases w)
  have HSK := hid hsk
  clear hg hd hW
  go_enter Try.func4, Try.ntmps4
  go_upto_region 1 with fail
  (try rw [hW0])
  clear hW0
  go_wp2_with fail
  refine (r20_Few g _ ds _ W0 hgr.out hdr.out).mono ?_
  rintro e w1 ⟨rfl, hB1⟩
  have HB1 := hid hB1
  have HX1 := hid (HX.out.below hB1)
  have c0 : w1.cell? ⟨w.heap.size, 0, none⟩ = some (.int .i64 g.n) := (HX1.out.cell 0).trans rfl
  have c1 : w1.cell? ⟨w.heap.size, 1, none⟩ = some ev := (HX1.out.cell 1).trans rfl
  have cl := HX1.out.lt
  clear hB1
  dsimp only
  cases hf : few20 g ds with
  | false =>
    go_wp2_with fail
    refine (hCP.out _).mono ?_
    rintro e wz ⟨rfl, hBz⟩
    dsimp only
    go_wp2_with fail
    go_ret
    exact ⟨rfl, up HW.out (up HB1.out hBz)⟩
  | true =>
  clear hf
  go_wp2_with fail
  refine (r20_Check g _ ds _ w1 (hgr.out.below HB1.out) (hdr.out.below HB1.out)).mono ?_
  rintro e w2 ⟨rfl, hB2⟩
  have HB2 := hid (up HB1.out hB2)
  have HX2 := hid (HX.out.below HB2.out)
  have c0 : w2.cell? ⟨w.heap.size, 0, none⟩ = some (.int .i64 g.n) := (HX2.out.cell 0).trans rfl
  have c1 : w2.cell? ⟨w.heap.size, 1, none⟩ = some ev := (HX2.out.cell 1).trans rfl
  have cl := HX2.out.lt
  clear hB2 HB1 HX1
  dsimp only
  by_cases hce : cgErr g ds = 0
  case neg =>
    have hce' : (cgErr g ds != 0) = true := by simpa using hce
    generalize cgErr g ds = ce at *
    go_wp2_with fail
    refine (hCP.out _).mono ?_
    rintro e wz ⟨rfl, hBz⟩
    dsimp only
    go_wp2_with fail
    go_ret
    exact ⟨rfl, up HW.out (up HB2.out hBz)⟩
  rw [hce]
  have hok := cg_ok hce
  have HOK := hid hok
  have hn := hok.gok.n
  have hl := hok.len
  have HPL := hid (fun (w' : World) (h : Below W0.heap.size W0 w') => p_Play g _ ds _ g.n.toNat rfl w' (hgr.out.below h) (hdr.out.below h) hok)
  have HRD := hid (fun k => ClR.mk' hok (rfl : g.n.toNat = g.n.toNat) k)
  have HCL := hid (fun (n : Nat) (hn : n ≤ 2000) he (q : Int) hq => closed_law hok hn he (q := q) hq)
  have HPC := hid (fun (L : Nat → Int) (dv : Value) (w' : World) (h : Below W0.heap.size W0 w') h2 h3 => p_Closed g _ g.n.toNat rfl L dv w' (hgr.out.below h) h2 h3)
  have HCK := hid (fun (L : List Int) (dv : Value) (w' : World) (h : Below W0.heap.size W0 w') h2 => r20_Check g _ L dv w' (hgr.out.below h) h2)
  have HPS := hid (fun (q : Int) (w' : World) (h : Below W0.heap.size W0 w') => p_Stabilize g _ q ds _ w' (hgr.out.below h) (hdr.out.below h))
  have HDE : Hid (dErr ds g.n = 0) := hok.dErr
  generalize hgn : g.n.toNat = N at *
  have HN : Hid (0 < N ∧ N ≤ 12 ∧ (N : Int) = g.n ∧ ds.length = N) := by show _ ∧ _; omega
  have HGN := hid hgn
  clear hce hok hn hl hgn
  go_wp2_with fail
  refine (HPL.out w2 HB2.out).mono ?_
  rintro e w3 ⟨hB3, hr⟩
  have HB3 := hid (up HB2.out hB3)
  have HX3 := hid (HX.out.below HB3.out)
  have c0 : w3.cell? ⟨w.heap.size, 0, none⟩ = some (.int .i64 g.n) := (HX3.out.cell 0).trans rfl
  have c1 : w3.cell? ⟨w.heap.size, 1, none⟩ = some ev := (HX3.out.cell 1).trans rfl
  have cl := HX3.out.lt
  clear hB3 HB2 HX2 HPL
  rcases hr with rfl | ⟨x, y, z, rfl⟩ | ⟨n, hn4, hrd, rfl⟩
  case' inl =>
    dsimp only
    go_wp2_with fail
    refine (hCP.out _).mono ?_
    rintro e wz ⟨rfl, hBz⟩
    dsimp only
    go_wp2_with fail
    go_ret
    exact ⟨rfl, up HW.out (up (HB3.out.alloc HB3.out.size _) hBz)⟩
  case' inr.inl =>
    dsimp only
    go_wp2_with fail
    refine (hCP.out _).mono ?_
    rintro e wz ⟨rfl, hBz⟩
    dsimp only
    go_wp2_with fail
    go_ret
    exact ⟨rfl, up HW.out (up (HB3.out.alloc HB3.out.size _) hBz)⟩
  have HRDE := hid hrd
  have HN4 := hid hn4
  have hmk := run_zer (P := Try.prog) 27 3 Try.underScript Try.infoInt g.n N (by have := HN.out; omega) (by have := HN.out; omega) (by have := HN.out; omega)
  dsimp only
  by_cases h2k : n ≤ 2000
  case neg =>
    have h2k' : (2000 : Int) < (n : Int) := by omega
    have hn0 : ¬ (n : Int) < 0 := by omega
    clear hrd hn4 h2k
    go_wp2_with fail
    refine (hCP.out _).mono ?_
    rintro e wz ⟨rfl, hBz⟩
    dsimp only
    go_wp2_with fail
    go_ret
    exact ⟨rfl, up HW.out (up (HB3.out.alloc HB3.out.size _) hBz)⟩
  have h2k' : ¬ (2000 : Int) < (n : Int) := by omega
  have hn0 : ¬ (n : Int) < 0 := by omega
  have H2K := hid h2k
  clear hrd hn4 h2k
  obtain ⟨W4, hW4⟩ : ∃ W4, W4 = (w3.alloc (.cells #[.int .i64 n, .int .i64 1, .int .i64 0, .bool true] 47)).alloc (.cells (zer N) 3) := ⟨_, rfl⟩
  have HB4 : Hid (Below W0.heap.size W0 W4) := by rw [hW4]; exact (HB3.out.alloc HB3.out.size _).alloc (by have := HB3.out.size; simp; omega) _
  have HT0 : Hid (W4.ownsRow W0.heap.size 3 1 (.slice (some ⟨w3.heap.size + 1, 0, none⟩) N N) N ((vecOf N (rndTo g (-1) N (s0Of ds) 0).T).map (Value.int .i64))) := by
    refine owns_zer _ ?_ (by have := HB3.out.size; omega) (by have := HN.out; omega)
    rw [hW4]
    have := Blk.new (w3.alloc (.cells #[.int .i64 n, .int .i64 1, .int .i64 0, .bool true] 47)) (zer N) 3
    rw [World.size_alloc] at this
    exact this
  have HW4 := hid hW4
  have HTB : Hid (W0.heap.size ≤ w3.heap.size + 1) := by show _ ≤ _; have := HB3.out.size; omega
  clear hW4
  go_wp2_with fail
  rw [← HW4.out]
  generalize w3.heap.size + 1 = tb at *
  clear HW4 hmk h2k' hn0 c0 c1 cl HX3 HB3
  go_loopw [10, 71] (fun nv iv wr => ∃ k : Nat, k ≤ n ∧ iv = .int .i64 k ∧ Hid (IntsR wr nv (vecOf N (rndTo g (-1) N (s0Of ds) k).L)) ∧ Hid (wr.ownsRow W0.heap.size 3 1 (.slice (some ⟨tb, 0, none⟩) N N) N ((vecOf N (rndTo g (-1) N (s0Of ds) k).T).map (Value.int .i64))) ∧ Hid (Below W0.heap.size W0 wr)) (fun _ iv _ => n - (intOf iv).toNat)
  case atStart =>
    refine ⟨0, Nat.zero_le _, rfl, ?_, HT0, HB4⟩
    show IntsR _ _ (vecOf N (dOf ds))
    rw [vec_dOf HN.out.2.2.2]
    exact hdr.out.below HB4.out
  case round =>
    clear HT0 HB4
    obtain ⟨k, hk, rfl, HI, HT, HB⟩ := hrel
    obtain ⟨W5, rfl⟩ : ∃ W5 : World, W5 = wr := ⟨_, rfl⟩
    have HXr := hid (HX.out.below HB.out)
    have c0 : W5.cell? ⟨w.heap.size, 0, none⟩ = some (.int .i64 g.n) := (HXr.out.cell 0).trans rfl
    have c1 : W5.cell? ⟨w.heap.size, 1, none⟩ = some ev := (HXr.out.cell 1).trans rfl
    have cl := HXr.out.lt
    by_cases hlt : k < n
    · have hkn : (k : Int) < (n : Int) := by omega
      have hc := hid (HPC.out _ _ _ HB.out HI.out (HRD.out k).ok)
      have hR := hid (HRD.out k)
      have hnx := (HRD.out (k + 1)).ok
      have hck := hid (fun (dv : Value) (w' : World) h h2 => HCK.out (vecOf N (rndTo g (-1) N (s0Of ds) (k + 1)).L) dv w' h h2)
      have HER := hid hnx.err
      have hTT : Hid ((rndTo g (-1) N (s0Of ds) (k + 1)).T = cntAll (rdyN g (-1) N (rndTo g (-1) N (s0Of ds) k).L) (rndTo g (-1) N (s0Of ds) k).T) := rnd_T g (-1) N _
      have hLL : Hid ((rndTo g (-1) N (s0Of ds) (k + 1)).L = fireAll g (rdyN g (-1) N (rndTo g (-1) N (s0Of ds) k).L) (rndTo g (-1) N (s0Of ds) k).L) := rnd_L g (-1) N _
      clear hnx
      go_wp2_with fail
      refine hc.out.mono ?_
      rintro e w6 ⟨nb, nc, lv, rfl, hI6, hL6, hB6⟩
      rw [← hLL.out] at hI6
      have hls : ∃ la lc, lv = .slice la (rdyN g (-1) N (rndTo g (-1) N (s0Of ds) k).L).length lc := by
        obtain ⟨a1, c1, e1, _⟩ := owns_ints hL6 (by have := hR.out.ln; have := HN.out; omega)
        exact ⟨a1, c1, e1⟩
      obtain ⟨la, lc, rfl⟩ := hls
      have htlt := (owns_lt HT.out).2
      have HNO := hid (offP_own (p := fun k => k = tb) hI6 (fun k h => by omega))
      have HLO := hid (offP_own (p := fun k => k = tb) hL6 (fun k h => by omega))
      have HI6 : Hid (IntsR w6 (.slice (some ⟨nb, 0, none⟩) N nc) (vecOf N (rndTo g (-1) N (s0Of ds) (k + 1)).L)) := owns_intsN hI6 (vecOf_len _ _) (by have := HN.out; omega)
      have HL6 := hid (owns_ints hL6 (by have := hR.out.ln; have := HN.out; omega))
      have HRL := hid hR.out.rl
      have HRN := hid hR.out.ln
      clear htlt
      have HB6 := hid (up HB.out hB6)
      have HT6 := hid (owns_below HT.out hB6)
      clear hI6 hL6 hB6 HI HT HB c0 c1 cl HXr hc
      have HXr := hid (HX.out.below HB6.out)
      have c0 : w6.cell? ⟨w.heap.size, 0, none⟩ = some (.int .i64 g.n) := (HXr.out.cell 0).trans rfl
      have c1 : w6.cell? ⟨w.heap.size, 1, none⟩ = some ev := (HXr.out.cell 1).trans rfl
      have cl := HXr.out.lt
      dsimp only
      go_wp2_with fail
      refine (hck.out _ _ HB6.out HI6.out).mono ?_
      rintro e w7 ⟨rfl, hB7⟩
      rw [HER.out]
      have HI7 := hid (HI6.out.below hB7)
      have HL7 := hid (HL6.out.below hB7)
      have HB7 := hid (up HB6.out hB7)
      have HT7 : Hid (w7.ownsRow W0.heap.size 3 1 (.slice (some ⟨tb, 0, none⟩) N N) N ((vecOf N (cntAll ((rdyN g (-1) N (rndTo g (-1) N (s0Of ds) k).L).take 0) (rndTo g (-1) N (s0Of ds) k).T)).map (Value.int .i64))) := owns_below HT6.out hB7
      clear hB7 HI6 HL6 HB6 HT6 hck HER
      generalize rdyN g (-1) N (rndTo g (-1) N (s0Of ds) k).L = RL at *
      dsimp only
      go_wp2_with fail
      go_loopw [90] (fun iv wr => ∃ j : Nat, j ≤ RL.length ∧ iv = .int .i64 j ∧ Hid (KeptC W0.heap.size (fun k => k = tb) w7 wr) ∧ Hid (wr.ownsRow W0.heap.size 3 1 (.slice (some ⟨tb, 0, none⟩) N N) N ((vecOf N (cntAll (RL.take j) (rndTo g (-1) N (s0Of ds) k).T)).map (Value.int .i64)))) (fun iv _ => RL.length - (intOf iv).toNat)
      case atStart => exact ⟨0, Nat.zero_le _, rfl, KeptC.refl _ _ _, HT7⟩
      case round =>
        clear HT7 c0 c1 cl HXr
        obtain ⟨j, hj, rfl, HK, HT⟩ := hrel
        have HB := hid (HB7.out.trans HK.out.low)
        obtain ⟨W8, rfl⟩ : ∃ W8 : World, W8 = wr := ⟨_, rfl⟩
        have HXr := hid (HX.out.below HB.out)
        have c0 : W8.cell? ⟨w.heap.size, 0, none⟩ = some (.int .i64 g.n) := (HXr.out.cell 0).trans rfl
        have c1 : W8.cell? ⟨w.heap.size, 1, none⟩ = some ev := (HXr.out.cell 1).trans rfl
        have cl := HXr.out.lt
        by_cases hjl : j < RL.length
        · obtain ⟨a1, c1', e1, _, _, _, hcs⟩ := HL7.out.keptC HK.out HLO.out
          obtain ⟨rfl, rfl⟩ : la = a1 ∧ lc = c1' := by simpa using e1
          obtain ⟨ba, off, rfl, hba, hx⟩ := hcs.int (by omega)
          have x1 := hx j hjl
          obtain ⟨v, hve, hvN⟩ := HRL.out (RL[j]?.getD 0) (by rw [List.getElem?_eq_getElem hjl]; exact List.getElem_mem hjl)
          have HST : Hid (cntAll (RL.take (j + 1)) (rndTo g (-1) N (s0Of ds) k).T = addT (cntAll (RL.take j) (rndTo g (-1) N (s0Of ds) k).T) v 1) := by
            show _ = _; rw [cntAll_step RL _ j hjl, hve, Int.toNat_natCast]
          rw [hve] at x1
          have hM0 := cnt_nn (RL.take j) (rndTo g (-1) N (s0Of ds) k).T hR.out.lo v
          have hM1 := cntAll_le (RL.take j) (rndTo g (-1) N (s0Of ds) k).T v
          have hM2 : (RL.take j).length ≤ 12 := by have := HRN.out; have := HN.out; rw [List.length_take]; omega
          have hM3 := hR.out.hi v
          have hM4 : (12 * (k : Int) * (N : Int)) ≤ 24000 * 12 := Int.mul_le_mul (by have := H2K.out; omega) (by have := HN.out; omega) (by omega) (by omega)
          have hR12 : RL.length ≤ 12 := by have := HRN.out; have := HN.out; omega
          have hvt : vtx g.n v = true := by have := HN.out; unfold vtx; simp; omega
          have hcv := hid (fun w' => r08_Vertex g.n v ev w')
          rw [hvt] at hcv
          generalize cntAll (RL.take j) (rndTo g (-1) N (s0Of ds) k).T = M at *
          have wv : IntKind.i64.wrap (M v + 1) = M v + 1 := IntWalk.i64_in _ (by omega)
          have wj : IntKind.i64.wrap ((j : Int) + 1) = (j : Int) + 1 := IntWalk.i64_in _ (by omega)
          have hv1 : (v : Int) < (N : Int) := by omega
          have hv0 : (0 : Int) ≤ (v : Int) := by omega
          have hjl' : (j : Int) < (RL.length : Int) := by omega
          have hj0 : (0 : Int) ≤ (j : Int) := by omega
          have HHV := hid hvN
          clear hM0 hM1 hM2 hM3 hM4 hR12 hvt hve hx
          go_wp2_with fail
          refine (hcv.out _).mono ?_
          rintro e w9 ⟨rfl, hw9⟩
          have hB9 : Below W8.heap.size W8 w9 := by rw [← hw9]; go_grown
          have HT9 := hid (owns_below HT.out hB9)
          have cz := owns_int HT9.out v HHV.out
          rw [vecOf_get _ _ _ HHV.out] at cz
          have fz := HT9.out.frozenAt v
          have lz := (owns_lt HT9.out).2
          have hst := owns_set (f := Value.int .i64) HT9.out v (M v + 1)
          rw [vecOf_set, addT_set] at hst
          have HT2 := hid hst
          have HK2 : Hid (KeptC W0.heap.size (fun k => k = tb) w7 (w9.setCell ⟨tb, v, none⟩ (.int .i64 (M v + 1)))) := (HK.out.trans (keptC_below HB.out.size hB9 _)).trans ((KeptC.setAt w9 tb v _).weaken HTB.out (fun k h => h))
          clear hw9 hst hB9 hcv HT HT9
          dsimp only
          go_wp2_with fail
          go_roundw
          case rel => exact ⟨j + 1, by omega, by go_num, HK2, by rw [HST.out]; exact HT2⟩
          case measure => simp [intOf]; omega
        · obtain rfl : j = RL.length := by omega
          have hT := HT.out
          rw [List.take_length, ← hTT.out] at hT
          have HT2 := hid hT
          have HI2 := hid (HI7.out.keptC HK.out HNO.out)
          have wk : IntKind.i64.wrap ((k : Int) + 1) = (k : Int) + 1 := IntWalk.i64_in _ (by have := H2K.out; omega)
          clear hT HT HI7 HL7 HNO HLO hTT hLL
          go_wp2_with fail
          go_roundw
          case rel => exact ⟨k + 1, by omega, by go_num, HI2, HT2, HB⟩
          case measure => simp [intOf]; omega
    · obtain rfl : n = k := by omega
      have hN := HN.out
      have hs := HSK.out
      have hrm : Int.tmod sk g.n = sk % g.n := Int.tmod_eq_emod_of_nonneg hs.1
      have hq : 0 ≤ sk % g.n ∧ sk % g.n < g.n := ⟨Int.emod_nonneg _ (by omega), Int.emod_lt_of_pos _ (by omega)⟩
      have wb8 : IntKind.i64.wrap sk = sk := IntWalk.i64_in _ (by omega)
      have hg1 : (g.n == 0) = false := by have : ¬ g.n = 0 := by omega
                                          simpa using this
      have hg2 : ¬ (g.n = 0) := by omega
      obtain ⟨r, hr1, hr2, hr3, hr4⟩ := HCL.out n H2K.out HRDE.out (sk % g.n) hq
      generalize sk % g.n = q at *
      have HST := hid (HPS.out q W5 HB.out)
      rw [hr1] at HST
      have HR2 := hid hr2
      have HR4 := hid hr4
      have HDE2 : Hid (dErr (vecOf N r.L) (vecOf N r.L).length = 0) := dErr_in ⟨hN.1, hN.2.1⟩ hr4
      have HSM : Hid (sumTo (dOf (vecOf N r.L)) (vecOf N r.L).length = sumTo (dOf ds) ds.length) := by
        show _ = _; rw [vecOf_len, sumTo_vec]; exact hr3
      have hnn : ((N : Int) != g.n) = false := by rw [hN.2.2.1]; simp
      clear hr1 hr2 hr3 hr4 hN hs HPS HCL HRDE HRD HPC HCK HI
      go_wp2_with fail
      refine HST.out.mono ?_
      rintro e w6 ⟨hB6, eb, ec, sb, sc', rfl, hoe, hos⟩
      have HEND : Hid (IntsR w6 (.slice (some ⟨eb, 0, none⟩) N ec) (vecOf N r.L)) := owns_intsN hoe (vecOf_len _ _) (by have := HN.out; omega)
      have HODO := hid hos
      have HB6 := hid (up HB.out hB6)
      have HT6 := hid (owns_below HT.out hB6)
      clear hB6 HST hoe hos HT HB HXr c0 c1 cl
      dsimp only
      go_wp2_with fail
      refine (p_Degree _ _ w6 HEND.out HDE2.out).mono ?_
      rintro e w7 ⟨rfl, hB7⟩
      rw [HSM.out]
      have HB7 := hid (up HB6.out hB7)
      have HT7 := hid (owns_below HT6.out hB7)
      have HO7 := hid (owns_below HODO.out hB7)
      clear hB7 HT6 HODO HB6 HSM HEND HDE2
      have hrt := hid (r17_Total ds _ g.n w7 (hdr.out.below HB7.out) HDE.out)
      generalize sumTo (dOf ds) ds.length = sm at *
      have HXr := hid (HX.out.below HB7.out)
      have c0 : w7.cell? ⟨w.heap.size, 0, none⟩ = some (.int .i64 g.n) := (HXr.out.cell 0).trans rfl
      have c1 : w7.cell? ⟨w.heap.size, 1, none⟩ = some ev := (HXr.out.cell 1).trans rfl
      have cl := HXr.out.lt
      have hsm : (sm != sm) = false := by simp
      dsimp only
      go_wp2_with fail
      refine hrt.out.mono ?_
      rintro e w8 ⟨rfl, rfl⟩
      dsimp only
      go_wp2_with fail
      go_loopw [144] (fun iv wr => ∃ j : Nat, j ≤ N ∧ iv = .int .i64 j ∧ Hid (Below w7.heap.size w7 wr)) (fun iv _ => N - (intOf iv).toNat)
      case atStart => exact ⟨0, Nat.zero_le _, rfl, Below.refl _ _⟩
      case round =>
        obtain ⟨j, hj, rfl, HB⟩ := hrel
        obtain ⟨W8, rfl⟩ : ∃ W8 : World, W8 = wr := ⟨_, rfl⟩
        have HT8 := hid (owns_below HT7.out HB.out)
        have HO8 := hid (owns_below HO7.out HB.out)
        by_cases hjl : j < N
        · have h1 := HR2.out j hjl
          have cz := owns_int HT8.out j hjl
          rw [vecOf_get _ _ _ hjl] at cz
          have cy := owns_int HO8.out j hjl
          rw [vecOf_get _ _ _ hjl] at cy
          have hgt : ¬ (rndTo g (-1) N (s0Of ds) n).T j < r.T j := by omega
          have hjl' : (j : Int) < (N : Int) := by omega
          have hj0 : (0 : Int) ≤ (j : Int) := by omega
          have wj : IntKind.i64.wrap ((j : Int) + 1) = (j : Int) + 1 := IntWalk.i64_in _ (by have := HN.out; omega)
          generalize (rndTo g (-1) N (s0Of ds) n).T j = tj at *
          generalize r.T j = rj at *
          clear h1
          go_wp2_with fail
          go_quiet (fail)
          go_wp2_with fail
          exact ⟨⟨j + 1, by omega, by simp, below_dN HB.out _⟩, by simp [intOf]; omega⟩
        · obtain rfl : N = j := by omega
          go_wp2_with fail
          refine (hCP.out _).mono ?_
          rintro e wz ⟨rfl, hBz⟩
          dsimp only
          go_wp2_with fail
          go_ret
          exact ⟨rfl, up HW.out (up (up HB7.out HB.out) hBz)⟩
end Go.Proofs.Ytbjoblkigbphhaa
