/-
  graph.Make at right ends.
-/
import Derived.Test.YtemmepgfngkgmaaGreatDoorNo4
namespace Go.Proofs.YtemmepgfngkgmaaGreatDoor
open Go.RowKit Go.Maps
set_option linter.unusedVariables false
set_option linter.unusedSimpArgs false

/-- The bag holds so many at a key. -/
def BagAt (B : Nat) (kl : Lit) (c : Int) (W : World) : Prop := ∃ (N : Nat) (D : DataW Unit), W.ownsMap Tryz.prog 156 (plainElem Tryz.prog 3) B N D ∧ D.atKey kl (.lit (.int .i64 0)) = .lit (.int .i64 c)
theorem BagAt.kept {B : Nat} {kl : Lit} {c : Int} {W W' : World} {r : Option Nat} (h : BagAt B kl c W) (hg : W.grownBy W' r) (hr : some B ≠ r) : BagAt B kl c W' := by
  obtain ⟨N, D, h1, h2⟩ := h
  exact ⟨N, D, h1.kept hg hr, h2⟩
theorem BagAt.look {B : Nat} {a b c : Int} {W : World} (h : BagAt B (keyL a b) c W) (hr : InR a b) : (Instr.lookup 160 (.map (some B)) (.agg #[.int .i64 a, .int .i64 b]) false).run Tryz.prog W = .ok (.int .i64 c) W := by
  obtain ⟨N, D, h1, h2⟩ := h
  obtain ⟨c', hrun, hat, _⟩ := h1.lookup_int K_pair und_bag und_intM (zero_intM W) (key_inR hr)
  rw [h2] at hat
  have e : c = c' := by simpa using hat
  subst e
  exact hrun

set_option maxRecDepth 100000 in
set_option maxHeartbeats 8000000 in
theorem g_Make (n : Int) (hn : 1 ≤ n ∧ n ≤ 12) (ps : List (Int × Int)) (hl : ps.length ≤ 40) (hin : ∀ p ∈ ps, InP n p) (v : Value) (w : World) (hv : PairsR w v ps) :
    Calls Tryz.prog 40 #[.int .i64 n, v] w fun e w' => ∃ gv, e = .returned (.tuple #[gv, .int .i64 0]) ∧ GrR w' gv ⟨n, esOfM (bagM ps) n.toNat⟩ ∧ Below w.heap.size w w' := by
  have HV := hid hv
  have HN := hid (And.intro hn hl)
  have HIN : Hid (∀ k, k < ps.length → InP n (ps[k]?.getD (0, 0))) := fun k hk => by
    rw [List.getElem?_eq_getElem hk]
    exact hin _ (List.getElem_mem hk)
  have HRG : Hid (∀ x y, bagM ps x y ≠ 0 → 0 ≤ x ∧ x < n ∧ 0 ≤ y ∧ y < n) := bagM_rg hin
  obtain ⟨a, cap, rfl, hcap, hcm, _, _⟩ := hv
  have hn1 : ¬ n < 1 := by omega
  have hn2 : ¬ 12 < n := by omega
  have hl2 : ¬ (4096 : Int) < (ps.length : Int) := by omega
  have HR0 := hid ((Blk.new w #[.int .i64 0, .slice none 0 0] 24).alloc (.map #[] 0))
  have HB0 := hid (((Below.refl w.heap.size w).alloc (Nat.le_refl _) (.cells #[.int .i64 0, .slice none 0 0] 24)).alloc (by simp) (.map #[] 0))
  have hom := World.ownsMap_made (w.alloc (.cells #[.int .i64 0, .slice none 0 0] 24)) Tryz.prog 156 (plainElem (H := Unit) Tryz.prog 3)
  rw [World.size_alloc] at hom
  have HOM := hid hom
  have hmm := @run_makeMap Tryz.prog
  clear hn hl hin hom
  go_enter Tryz.func40, Tryz.ntmps40
  go_upto_region 6 with fail
  (try rw [World.size_alloc])
  generalize (w.alloc (.cells #[.int .i64 0, .slice none 0 0] 24)).alloc (.map #[] 0) = W0 at *
  clear hmm hn1 hn2 hl2
  go_wp2_with fail
  go_loopw [25] (fun i wr => ∃ k : Nat, k ≤ ps.length ∧ i = .int .i64 k ∧ ∃ D : DataW Unit, Hid (wr.ownsMap Tryz.prog 156 (plainElem Tryz.prog 3) (w.heap.size + 1) k D) ∧ Hid (BagD D (bagM (ps.take k))) ∧ Hid (Blk wr w.heap.size #[.int .i64 0, .slice none 0 0] 24) ∧ Hid (Below w.heap.size w wr)) (fun i _ => ps.length - (intOf i).toNat)
  case atStart => exact ⟨0, Nat.zero_le _, rfl, _, HOM, BagD.nil, HR0, HB0⟩
  case round =>
    clear HOM HR0 HB0
    obtain ⟨k, hkn, rfl, D, HOM, HD, HR, HB⟩ := hrel
    obtain ⟨W1, rfl⟩ : ∃ W : World, W = wr := ⟨_, rfl⟩
    have hll := HN.out.2
    by_cases hlt : k < ps.length
    · have hlt' : (k : Int) < (ps.length : Int) := by omega
      have hk0 : (0 : Int) ≤ (k : Int) := by omega
      obtain ⟨a', cap', ea, _, _, _, hc⟩ := HV.out.below HB.out
      injection ea with ea1 _ ea3
      subst ea1 ea3
      obtain ⟨b, off, rfl, hb, hc⟩ := hc.pair (by omega)
      obtain ⟨c0, c1⟩ := hc k hlt
      have hp := HIN.out k hlt
      have HBT := hid (bagM_take ps k hlt)
      have hbd := bagM_bd (ps.take k)
      have htl : (ps.take k).length ≤ 40 := by rw [List.length_take]; omega
      generalize ps[k]?.getD (0, 0) = p at *
      obtain ⟨p1, p2⟩ := p
      dsimp only at c0 c1 HBT
      obtain ⟨⟨h1, h2⟩, h3, h4⟩ := hp
      dsimp only at h1 h2 h3 h4
      have hn12 := HN.out.1
      clear hc
      go_upto_region 9 with fail
      have HX := hid (Blk.new W1 #[.int .i64 p1, .int .i64 p2] 80)
      have hst := (Below.refl W1.heap.size W1).alloc (Nat.le_refl _) (.cells #[.int .i64 p1, .int .i64 p2] 80)
      have HB2 := hid (up HB.out hst)
      have HR2 := hid (HR.out.below hst)
      have HOM2 := hid (HOM.out.alloc (.cells #[.int .i64 p1, .int .i64 p2] 80))
      have hBX : Hid (w.heap.size + 1 < W1.heap.size) := HOM.out.lt
      clear hst HB HR HOM c0 c1 hb
      generalize W1.alloc (.cells #[.int .i64 p1, .int .i64 p2] 80) = W2 at *
      generalize W1.heap.size = X at *
      have x0 : W2.cell? ⟨X, 0, none⟩ = some (.int .i64 p1) := (HX.out.cell 0).trans rfl
      have x1 : W2.cell? ⟨X, 1, none⟩ = some (.int .i64 p2) := (HX.out.cell 1).trans rfl
      have xl := HX.out.lt
      have v1 : vtx n p1 = true := by unfold vtx; simp; omega
      have v2 : vtx n p2 = true := by unfold vtx; simp; omega
      have hv1 := hid (fun w => p_vertex n p1 w)
      have hv2 := hid (fun w => p_vertex n p2 w)
      rw [v1] at hv1
      rw [v2] at hv2
      clear v1 v2
      go_wp2_with fail
      refine (hv1.out W2).mono ?_
      rintro e w3 ⟨rfl, hw3⟩
      subst hw3
      dsimp only
      go_wp2_with fail
      refine (hv2.out W2).mono ?_
      rintro e w3 ⟨rfl, hw3⟩
      subst hw3
      dsimp only
      clear hv1 hv2
      obtain ⟨lo, hlo⟩ : ∃ z, z = min p1 p2 := ⟨_, rfl⟩
      obtain ⟨hi, hhi⟩ : ∃ z, z = max p1 p2 := ⟨_, rfl⟩
      rw [← hlo, ← hhi] at HBT
      have hrr : InR lo hi := by unfold InR; omega
      have HRR := hid hrr
      have hcv := HD.out.at' lo hi hrr
      have hbv := hbd lo hi
      have HJ := hid (fun w => g_joined p1 p2 w)
      rw [← hlo, ← hhi] at HJ
      generalize hc : bagM (ps.take k) lo hi = c at *
      have HCV := hid hcv
      have wc : IntKind.i64.wrap (c + 1) = c + 1 := IntWalk.i64_in _ (by omega)
      have HWF : Hid ((Lit.int .i64 (c + 1)).wf = true) := WalkArith.wf_i64 (by omega)
      have HC0 := hid hbv.1
      have HCE := hid hc
      have HBA : Hid (BagAt (w.heap.size + 1) (keyL lo hi) c W2) := ⟨_, _, HOM2.out, hcv⟩
      clear hbd hbv hcv hc hlo hhi hrr htl
      go_upto_region 11 with fail
      have HX0 := hid (And.intro x0 x1)
      have HXL := hid xl
      clear x0 x1
      let S : World → Prop := fun W' => Hid (W'.cell? ⟨X, 0, none⟩ = some (.int .i64 p1) ∧ W'.cell? ⟨X, 1, none⟩ = some (.int .i64 p2)) ∧ Hid (BagAt (w.heap.size + 1) (keyL lo hi) c W') ∧ X < W'.heap.size
      (refine wp_region_text 10 [0,1,2,3,4,5,6,7,8,9] S (by kernel_rfl) (by kernel_rfl) (by intro _ _ d _ _ h; cases d <;> exact h) ?hS ?_; rotate_left; simp only [List.map_cons, List.map_nil, List.getD_cons_zero, List.getD_cons_succ, List.drop_succ_cons, List.drop_zero])
      case hS => exact ⟨HX0, HBA, xl⟩
      (repeat ((refine' wpSeq_take rfl _ (by rfl) ?_ ?_; rotate_left; focus (intro w' hS; (try dsimp only at hS); (obtain ⟨s0, s1, s2⟩ := hS; obtain ⟨s3, s4⟩ := s0.out); go_simp; (first | done | with_reducible rfl)); (try simp only [Act.put, List.setIfInBounds_toArray, List.set_cons_zero, List.set_cons_succ])); (try simp only [Act.put, List.setIfInBounds_toArray, List.set_cons_zero, List.set_cons_succ])))
      refine wpSeq_call rfl (by rfl) (fun K hK => ?_)
      go_simp
      refine (HJ.out _).mono ?_
      rintro e w5 ⟨rfl, hB5⟩
      have hB5 : Below W2.heap.size W2 w5 := (Below.drew (Below.refl W2.heap.size W2)).trans hB5
      have HX5 : Hid (w5.cell? ⟨X, 0, none⟩ = some (.int .i64 p1) ∧ w5.cell? ⟨X, 1, none⟩ = some (.int .i64 p2)) := ⟨(hB5.cell (p := ⟨X, 0, none⟩) HXL.out).trans HX0.out.1, (hB5.cell (p := ⟨X, 1, none⟩) HXL.out).trans HX0.out.2⟩
      have HBA5 := hid (HBA.out.kept (grown_of hB5 none) (by simp))
      have HOM5 := hid (HOM2.out.kept (grown_of hB5 none) (by simp))
      have HB5 := hid (up HB2.out hB5)
      have HR5 := hid (HR2.out.below hB5)
      have xl5 : X < w5.heap.size := Nat.lt_of_lt_of_le HXL.out hB5.size
      refine hK _ _ ⟨HX5, HBA5, xl5⟩ ?_
      clear hK K hB5 HX0 HBA HOM2 HB2 HR2 HXL xl
      unfold pairV
      (try simp only [Act.put, List.setIfInBounds_toArray, List.set_cons_zero, List.set_cons_succ])
      (repeat ((refine' wpSeq_take rfl _ (by rfl) ?_ ?_; rotate_left; focus (intro w' hS; (try dsimp only at hS); (obtain ⟨s0, s1, s2⟩ := hS; obtain ⟨s3, s4⟩ := s0.out; have s5 := s1.out.look HRR.out); go_simp; (first | done | with_reducible rfl)); (try simp only [Act.put, List.setIfInBounds_toArray, List.set_cons_zero, List.set_cons_succ])); (try simp only [Act.put, List.setIfInBounds_toArray, List.set_cons_zero, List.set_cons_succ])))
      obtain ⟨v0, st, w6, D1, hme, ho1, hat1, hg6, hs6, hst⟩ := entry_own law_pair und_bag und_intM zero_intM HOM5.out (by unfold maxLen; omega) (key_inR HRR.out) HCV.out
      unfold pairV at hme
      have HX6 : Hid (w6.cell? ⟨X, 0, none⟩ = some (.int .i64 p1) ∧ w6.cell? ⟨X, 1, none⟩ = some (.int .i64 p2)) := by
        have hne : X ≠ w.heap.size + 1 := by have := hBX.out; omega
        exact ⟨(World.cell?_of_block (hg6.block X xl5 (by simpa using hne))).trans HX5.out.1, (World.cell?_of_block (hg6.block X xl5 (by simpa using hne))).trans HX5.out.2⟩
      have HBA6 : Hid (BagAt (w.heap.size + 1) (keyL lo hi) c w6) := ⟨_, _, ho1, hat1⟩
      obtain ⟨w7, hes, ho7, hg7⟩ := hst w6 (c + 1) HWF.out rfl
      have hR7 := HR5.out.grown (hg6.trans hg7) (fun e => by simp at e)
      have hBw7 : Below w.heap.size w w7 := HB5.out.grown (hg6.trans hg7) HB5.out.size (fun q hq => by simp at hq; omega)
      have HR7 := hid hR7
      have HB7 := hid hBw7
      have HOM7 := hid ho7
      have HHES := hid hes
      have hs7 := hs6
      have HBD := hid (HD.out.put HRR.out (by rw [HCE.out]; exact HC0.out))
      rw [HCE.out] at HBD
      clear hR7 hBw7 ho7 hg7 hst ho1 hat1 hg6 HOM5 HBA5 HR5 HB5
      refine wpSeq_call rfl (by rfl) (fun K hK => ?_)
      go_simp
      refine hK _ _ ⟨HX6, HBA6, (by rw [hs6]; exact xl5)⟩ ?_
      clear hK K hme hs6 hs7 hes
      (try simp only [Act.put, List.setIfInBounds_toArray, List.set_cons_zero, List.set_cons_succ])
      (repeat ((refine' wpSeq_take rfl _ (by rfl) ?_ ?_; rotate_left; focus (intro w' hS; (try dsimp only at hS); (obtain ⟨s0, s1, s2⟩ := hS; obtain ⟨s3, s4⟩ := s0.out); go_simp; (first | done | with_reducible rfl)); (try simp only [Act.put, List.setIfInBounds_toArray, List.set_cons_zero, List.set_cons_succ])); (try simp only [Act.put, List.setIfInBounds_toArray, List.set_cons_zero, List.set_cons_succ])))
      refine wpSeq_nil ?_
      clear S
      have hes := HHES.out
      go_wp2_with fail
      go_roundw
      case rel =>
        refine ⟨k + 1, by omega, by go_num, _, HOM7, ?_, HR7, HB7⟩
        show BagD _ _
        rw [HBT.out]
        exact HBD.out
      case measure => simp [intOf]; omega
    · obtain rfl : k = ps.length := by omega
      have hlt' : ¬ (ps.length : Int) < (ps.length : Int) := by omega
      rw [List.take_length] at HD
      have hB1 := HOM.out.lt
      go_wp2_with (at_range; refine wpList_range_own W1 rfl _ 160 rfl 156 3 K_pair und_bag (plainElem Tryz.prog 3) (w.heap.size + 1) ps.length D rfl HOM.out ?_; intro w1 hrg hg1 hs1)
      (try go_frame)
      have HRGs := hid hrg
      have HR1 := hid (HR.out.grown hg1 (by simp))
      have HB1 : Hid (Below w.heap.size w w1) := HB.out.grown hg1 HB.out.size (fun q hq => by cases hq)
      have HWr := hid hB1
      have HWs := hid HB.out.size
      clear hrg hg1 hs1 HR HB HOM
      go_loopw [55] (fun _ wr => ∃ left cnt, Hid (wr.ranges Tryz.prog 156 (plainElem Tryz.prog 3) (w.heap.size + 1) W1.heap.size ps.length D left cnt) ∧ Hid (Blk wr w.heap.size #[.int .i64 0, .slice none 0 0] 24) ∧ Hid (Below w.heap.size w wr) ∧ Hid (∀ kl, left kl = true → Maps.has D kl = true))
        (fun _ wr => wr.rangeLeft (w.heap.size + 1) W1.heap.size)
      case atStart => exact ⟨_, _, HRGs, HR1, HB1, fun kl h => h⟩
      case round =>
        clear HRGs HR1 HB1
        obtain ⟨left, cnt, HRGs, HR, HB, HL⟩ := hrel
        obtain ⟨W3, rfl⟩ : ∃ W : World, W = wr := ⟨_, rfl⟩
        go_wp2_with (at_next; refine wpList_next_bag W3 rfl _ rfl (w.heap.size + 1) W1.heap.size ps.length D (bagM ps) left cnt rfl HRGs.out HD.out HL.out ?_ ?_)
        · intro hc0 hl0
          have HOM := hid HRGs.out.owns
          clear hl0 hc0
          have hgb := hid (g_bag n HN.out.1 (w.heap.size + 1) ps.length D (bagM ps) W3 HOM.out HD.out (by omega) HRG.out)
          go_wp2_with fail
          refine hgb.out.mono ?_
          rintro e w4 ⟨ev, rfl, hev, hB4⟩
          have HB4 := hid (up HB.out hB4)
          have HR4 := hid (HR.out.below hB4)
          have HEV := hid hev
          have hsz := HR.out.lt
          obtain ⟨ea, ecap, rfl, _⟩ := owns_at hev
          clear hev hB4 hgb
          have r0 : w4.cell? ⟨w.heap.size, 0, none⟩ = some (.int .i64 0) := (HR4.out.cell 0).trans rfl
          have r1 : w4.cell? ⟨w.heap.size, 1, none⟩ = some (.slice none 0 0) := (HR4.out.cell 1).trans rfl
          have f0 := HR4.out.frozen 0
          have f1 := HR4.out.frozen 1
          have rl := HR4.out.lt
          have hel := esTo_lenO (bagM ps) n.toNat
          have hnn : n.toNat ≤ 12 := by have := HN.out.1; omega
          have hsq : n.toNat * n.toNat ≤ 144 := Nat.mul_le_mul hnn hnn
          have HEL : Hid ((esOfM (bagM ps) n.toNat).length * 24 ≤ 140737488355328) := by show _ ≤ _; omega
          clear hel hnn hsq
          generalize hes : esOfM (bagM ps) n.toNat = es at *
          have HES := hid hes
          clear hes
          dsimp only
          go_wp2_with fail
          have HR5 := hid ((HR4.out.set 0 (.int .i64 n)).set 1 (.slice ea es.length ecap))
          refine bodyPost_ret (results_cell_tmp rfl rfl (load_gr rfl HR5.out)) rfl ⟨_, rfl, ⟨_, rfl, ?_⟩, ?_⟩
          · dsimp only
            rw [HES.out]
            exact owns_edges (kept_row (kept_row HEV.out (grown_set _ _ _ _) (hnk _ HEV.out (by omega))) (grown_set _ _ _ _) (hnk _ HEV.out (by omega))) HEL.out
          · exact (HB4.out.setCell (Nat.le_refl _) _).setCell (Nat.le_refl _) _
        · intro x y w4 cnt4 hr hlk hMn hrg4 hlt4 hg4 hs4 hen
          have hbd := bagM_bd ps x y
          have HR4 := hid (HR.out.grown hg4 (fun e => by have := HWr.out; simp at e; omega))
          have HB4 : Hid (Below w.heap.size w w4) := HB.out.grown hg4 HB.out.size (fun q hq => by have := HWs.out; simp at hq; omega)
          have HRG4 := hid hrg4
          have HLT := hid hlt4
          have HL4 : Hid (∀ kl, (left kl && !kl.sameKey (keyL x y)) = true → Maps.has D kl = true) := fun kl h => HL.out kl (by simp at h; exact h.1)
          generalize bagM ps x y = c at *
          have hc50 : ¬ 50 < c := by omega
          clear hlk hMn hrg4 hlt4 hg4 hs4 hbd HR HB HL
          go_wp2_with fail
          go_roundw
          case rel => exact ⟨_, _, HRG4, HR4, HB4, HL4⟩
          case measure =>
            have h1 := HRG4.out.left_eq
            have h2 := HRGs.out.left_eq
            have := HLT.out
            omega

end Go.Proofs.YtemmepgfngkgmaaGreatDoor
