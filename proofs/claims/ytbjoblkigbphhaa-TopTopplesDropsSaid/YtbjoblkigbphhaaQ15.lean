/-
  The law TopTopplesDrops, walked.
-/
import Derived.Test.YtbjoblkigbphhaaQ14
import Derived.Test.YtbjoblkigbphhaaAb5
import Derived.Test.YtbjoblkigbphhaaT0
namespace Go.Proofs.Ytbjoblkigbphhaa
set_option linter.unusedSimpArgs false
set_option linter.unusedVariables false
open Go.RowKit Go.Shelf

theorem CellsAt.u8 {w : World} {a : Option Addr} {xs : List Int} (h : CellsAt w a (xs.map (Value.int .u8))) (hk : 0 < xs.length) :
    ∃ b off, a = some ⟨b, off, none⟩ ∧ b < w.heap.size ∧ ∀ k, k < xs.length → w.cell? ⟨b, off + k, none⟩ = some (.int .u8 (xs[k]?.getD 0)) := by
  rcases h with h | ⟨b, off, rfl, hb, hc⟩
  · cases xs with
    | nil => simp at hk
    | cons => simp at h
  · refine ⟨b, off, rfl, hb, fun k hk => ?_⟩
    rw [hc k (by simpa using hk)]
    simp [hk]
/-- Where the chips fall. -/
def vsOf (N : Nat) (bs : List Int) : List Nat := bs.map fun b => (b % (N : Int)).toNat
theorem vsOf_len (N : Nat) (bs : List Int) : (vsOf N bs).length = bs.length := by simp [vsOf]
theorem vsOf_lt {N : Nat} (h : 0 < N) (bs : List Int) : ∀ v ∈ vsOf N bs, v < N := fun v hv => by
  obtain ⟨b, _, rfl⟩ := List.mem_map.1 hv
  have := Int.emod_lt_of_pos b (show (0 : Int) < N by omega)
  have := Int.emod_nonneg b (show (N : Int) ≠ 0 by omega)
  omega
theorem vsOf_at {N : Nat} (h : 0 < N) (bs : List Int) (k : Nat) (hk : k < bs.length) : (((vsOf N bs)[k]?.getD 0 : Nat) : Int) = bs[k]?.getD 0 % (N : Int) := by
  have := Int.emod_nonneg bs[k] (show (N : Int) ≠ 0 by omega)
  simp [vsOf, hk]
  omega
theorem pile_ok {g : G} {q : Int} {ds ps : List Int} (h : pileB g q ds ps = true) : cfgErr g q ds = 0 ∧ small17 ds = true := by
  unfold pileB at h
  simp only [Bool.and_eq_true, beq_iff_eq] at h
  exact ⟨h.1.1.1.2, h.1.1.2⟩
theorem calm_ok {g : G} {q : Int} {ds : List Int} (h : calmB g q ds = true) : waitN g q g.n.toNat (dOf ds) = [] := by
  unfold calmB at h
  exact List.length_eq_zero_iff.1 (of_decide_eq_true h)

theorem sum_part {f : Nat → Int} : ∀ {n : Nat}, (∀ u, u < n → 0 ≤ f u) → ∀ k, k ≤ n → 0 ≤ sumTo f k ∧ sumTo f k ≤ sumTo f n
  | 0, _, k, hk => by obtain rfl : k = 0 := by omega
                      exact ⟨Int.le_refl _, Int.le_refl _⟩
  | n + 1, h, k, hk => by
    have h0 := sum_part (n := n) (fun u hu => h u (by omega))
    have hn := h n (by omega)
    have e : sumTo f (n + 1) = sumTo f n + f n := rfl
    by_cases hkn : k = n + 1
    · subst hkn
      have := h0 n (Nat.le_refl _)
      omega
    · have := h0 k (by omega)
      omega
theorem rev_at (l : List Nat) (m : Nat) {n : Nat} (h : m < n) (hl : l.length = n) : l.reverse[m]?.getD 0 = l[n - 1 - m]?.getD 0 := by
  subst hl
  rw [List.getElem?_reverse h]
theorem calm_mk {g : G} {q : Int} {ds : List Int} (h : waitN g q g.n.toNat (dOf ds) = []) : calmB g q ds = true := by
  unfold calmB
  have e : waitTo (unst q (fun u => valence g u) ds) g.n.toNat = [] := h
  rw [e]
  rfl
theorem d60 {ds : List Int} (hs : small17 ds = true) (u : Nat) (hu : u < ds.length) : -60 ≤ dOf ds u ∧ dOf ds u ≤ 60 := by
  unfold small17 at hs
  have := List.all_eq_true.1 hs _ (List.getElem_mem hu)
  simp at this
  unfold dOf
  rw [List.getElem?_eq_getElem hu]
  exact this

set_option maxRecDepth 100000 in
set_option maxHeartbeats 8000000 in
theorem l_Drops (g : G) (gv : Value) (q : Int) (ds ps ss : List Int) (xv : Value) (bs : List Int) (uv : Value) (w : World) (hg : GrR w gv g) (hx : PileR w xv q ds ps ss) (hu : U8R w uv bs) :
    Calls Try.prog 3 #[gv, xv, uv] w fun e w' => e = .returned (.bool true) ∧ Below w.heap.size w w' := by
  have hg' := hg
  obtain ⟨ev, rfl, a, cap, rfl, hcap, hcm, hlen, hc⟩ := hg'
  have hx' := hx
  obtain ⟨dv, pv, sv, rfl, hd, hp, hs⟩ := hx'
  have hd' := hd
  obtain ⟨da, dc, rfl, _⟩ := hd'
  have hp' := hp
  obtain ⟨pa, pc, rfl, _⟩ := hp'
  obtain ⟨sa, sc, rfl, _⟩ := hs
  obtain ⟨ua, uc, rfl, huc, hum, huCells, hub⟩ := hu
  obtain ⟨W1, hW1⟩ : ∃ W : World, W = (w.alloc (.cells #[.int .i64 g.n, .slice a g.es.length cap] 24)).alloc (.cells #[.int .i64 q, .slice da ds.length dc, .slice pa ps.length pc, .slice sa ss.length sc] 29) := ⟨_, rfl⟩
  have hB : Below w.heap.size w W1 := by rw [hW1]; exact ((Below.refl _ _).alloc (Nat.le_refl _) _).alloc (by simp) _
  have bG : Hid (Blk W1 w.heap.size #[.int .i64 g.n, .slice a g.es.length cap] 24) := by rw [hW1]; exact (Blk.new _ _ _).alloc _
  have bX' : Blk W1 (w.heap.size + 1) #[.int .i64 q, .slice da ds.length dc, .slice pa ps.length pc, .slice sa ss.length sc] 29 := by rw [hW1]; have := Blk.new (w.alloc (.cells #[.int .i64 g.n, .slice a g.es.length cap] 24)) #[.int .i64 q, .slice da ds.length dc, .slice pa ps.length pc, .slice sa ss.length sc] 29; simpa using this
  have bX := hid bX'
  have hG := hid (hg.below hB)
  have hD := hid (hd.below hB)
  have hX : Hid (PileR W1 (.agg #[.int .i64 q, .slice da ds.length dc, .slice pa ps.length pc, .slice sa ss.length sc]) q ds ps ss) := by
    obtain ⟨dv, pv, sv, e, h1, h2, h3⟩ := hx
    exact ⟨dv, pv, sv, e, h1.below hB, h2.below hB, h3.below hB⟩
  have hU := hid (huCells.below hB)
  have HUB := hid hub
  have HB := hid hB
  have hCP := hid (fun w => l_cases w)
  have c0 := bG.out.cell 0
  have c1 := bG.out.cell 1
  have d0 := bX.out.cell 0
  have d1 := bX.out.cell 1
  have d2 := bX.out.cell 2
  have d3 := bX.out.cell 3
  simp only [List.getElem?_toArray, List.getElem?_cons_zero, List.getElem?_cons_succ] at c0 c1 d0 d1 d2 d3
  have HUC : Hid (bs.length ≤ uc ∧ uc ≤ 9223372036854775807) := ⟨huc, hum⟩
  clear hg hd hp hx hB huCells hub bX' huc hum hc hcap hcm hlen
  go_enter Try.func3, Try.ntmps3
  go_wp2_with fail
  rw [← hW1]
  clear hW1
  refine (l_pile g _ q ds ps ss _ _ hG.out hX.out).mono ?_
  rintro e w1 ⟨rfl, hB1⟩
  have B1 := hid hB1
  clear hB1 c0 c1 d0 d1 d2 d3
  cases hf : pileB g q ds ps with
  | false =>
    dsimp only
    go_wp2_with fail
    refine (hCP.out _).mono ?_
    rintro e wz ⟨rfl, hBz⟩
    dsimp only
    go_wp2_with fail
    go_ret
    exact ⟨rfl, up (up HB.out B1.out) hBz⟩
  | true =>
  have hpk := pile_ok hf
  have HPK := hid hpk
  obtain ⟨hgok, hq0, hqn, hdl, _⟩ := cfg_ok hpk.1
  have HGK := hid hgok
  have hn := hgok.n
  have HDL := hid hdl
  have hQN : Hid (0 < g.n.toNat ∧ g.n.toNat ≤ 12 ∧ (g.n.toNat : Int) = g.n ∧ ds.length = g.n.toNat) := by show _ ∧ _; omega
  have y0 := (bG.out.below B1.out).cell 0
  have y1 := (bG.out.below B1.out).cell 1
  have x0 := (bX.out.below B1.out).cell 0
  have x1 := (bX.out.below B1.out).cell 1
  simp only [List.getElem?_toArray, List.getElem?_cons_zero, List.getElem?_cons_succ] at y0 y1 x0 x1
  have HCA := hid (fun (w' : World) (h : Below W1.heap.size W1 w') => l_Calm g _ q ds _ w' (hG.out.below h) hgok (hD.out.below h) (by omega))
  have HVL := hid (fun l (h : l = vsOf g.n.toNat bs ∨ l = (vsOf g.n.toNat bs).reverse) v (hv : v ∈ l) => (show v < g.n.toNat by
    rcases h with rfl | rfl
    · exact vsOf_lt (by omega) bs v hv
    · exact vsOf_lt (by omega) bs v (List.mem_reverse.1 hv)))
  have HPS := hid (fun (W4 : World) (dv' : Value) (ds' : List Int) (h : Below W1.heap.size W1 W4) (hI : IntsR W4 dv' ds') => p_Stabilize g _ q ds' dv' W4 (hG.out.below h) hI)
  have HWL := hid (fun (hl : (vsOf g.n.toNat bs).length ≤ 20) (W : Nat → Int) hW => whole_law hpk.1 hpk.2 (l := vsOf g.n.toNat bs) hl (W := W) hW)
  have HAVL := hid (fun (hw : waitN g q g.n.toNat (dOf ds) = []) (l : List Nat) hl hlt (W : Nat → Int) hW r hr => av_law hpk.1 hpk.2 hw (l := l) hl hlt (W := W) hW (r := r) hr)
  have HAO := hid (fun (l : List Nat) (k : Nat) (h : AvOk g q ds l k) => (show cfgErr g q (vecOf g.n.toNat (avTo g q g.n.toNat (dOf ds) l k).1) = 0 ∧ waitN g q g.n.toNat (dOf (vecOf g.n.toNat (avTo g q g.n.toNat (dOf ds) l k).1)) = [] ∧ 0 ≤ (avTo g q g.n.toNat (dOf ds) l k).2 ∧ (avTo g q g.n.toNat (dOf ds) l k).2 ≤ 1048576 from ⟨h.cfg, h.calm, h.lo, h.hi⟩))
  have HPA := hid (fun (ds' : List Int) (dv' : Value) (v : Nat) (w' : World) (h : Below W1.heap.size W1 w') hd' hc' hw' hv' hok' s hs' hq' => p_Avalanche g _ q ds' dv' v w' (hG.out.below h) hd' hc' hw' hv' hok' s hs' hq')
  have HLC := hid (fun (ds' : List Int) (dv' : Value) (w' : World) (h : Below W1.heap.size W1 w') hd' hl' => l_Calm g _ q ds' dv' w' (hG.out.below h) hgok hd' hl')
  have HCMK := hid (fun (ds' : List Int) (h : waitN g q g.n.toNat (dOf ds') = []) => calm_mk (g := g) (q := q) (ds := ds') h)
  have HCOK := hid (fun (h : calmB g q ds = true) => calm_ok h)
  generalize hgn : g.n.toNat = N at *
  have HGN := hid hgn
  clear hpk hgok hq0 hqn hdl hn hf hgn
  dsimp only
  go_wp2_with fail
  refine (HCA.out _ B1.out).mono ?_
  rintro e w2 ⟨rfl, hB2⟩
  have B2 := hid (up B1.out hB2)
  clear hB2 x0 x1 y0 y1 B1
  cases hcm : calmB g q ds with
  | false =>
    dsimp only
    go_wp2_with fail
    refine (hCP.out _).mono ?_
    rintro e wz ⟨rfl, hBz⟩
    dsimp only
    go_wp2_with fail
    go_ret
    exact ⟨rfl, up (up HB.out B2.out) hBz⟩
  | true =>
  have HWN := hid (HCOK.out hcm)
  clear hcm
  by_cases h20 : 20 < bs.length
  · have h20' : (20 : Int) < (bs.length : Int) := by omega
    clear h20
    dsimp only
    go_wp2_with fail
    refine (hCP.out _).mono ?_
    rintro e wz ⟨rfl, hBz⟩
    dsimp only
    go_wp2_with fail
    go_ret
    exact ⟨rfl, up (up HB.out B2.out) hBz⟩
  have h20' : ¬ (20 : Int) < (bs.length : Int) := by omega
  have H20 := hid h20
  have x1 := (bX.out.below B2.out).cell 1
  simp only [List.getElem?_toArray, List.getElem?_cons_zero, List.getElem?_cons_succ] at x1
  clear h20
  have hcl := c_Clone ds _ w2 (hD.out.below B2.out) (by have := hQN.out; omega)
  have HCL := hid hcl
  clear hcl
  dsimp only
  go_wp2_with fail
  refine HCL.out.mono ?_
  rintro e w3 ⟨wb, wc, rfl, hown, hB3⟩
  clear x1 h20' HCL
  have HLN : Hid (ds.length = N) := hQN.out.2.2.2
  have B3 := hid (up B2.out hB3)
  have hwb := (owns_lt hown).1
  have HWB : Hid (W1.heap.size ≤ wb) := by show _ ≤ _; have := B2.out.size; omega
  have HO : Hid (w3.ownsRow W1.heap.size 3 1 (.slice (some ⟨wb, 0, none⟩) N wc) N ((vecOf N (dropTo (dOf ds) (vsOf N bs) 0)).map (Value.int .i64))) := by
    show World.ownsRow _ _ _ _ _ _ ((vecOf N (dOf ds)).map _)
    rw [vec_dOf HLN.out]
    have := owns_base hown B2.out.size
    rw [HLN.out] at this
    exact this
  rw [HLN.out]
  clear hown hB3 hwb
  dsimp only
  go_wp2_with fail
  go_loopw [50] (fun i wr => ∃ k : Nat, k ≤ bs.length ∧ i = .int .i64 k ∧ Hid (wr.ownsRow W1.heap.size 3 1 (.slice (some ⟨wb, 0, none⟩) N wc) N ((vecOf N (dropTo (dOf ds) (vsOf N bs) k)).map (Value.int .i64))) ∧ Hid (Below W1.heap.size W1 wr)) (fun i _ => bs.length - (intOf i).toNat)
  case atStart => exact ⟨0, Nat.zero_le _, rfl, HO, B3⟩
  case round =>
    clear HO B3
    obtain ⟨k, hk, rfl, HO, HW⟩ := hrel
    obtain ⟨W4, rfl⟩ : ∃ W4 : World, W4 = wr := ⟨_, rfl⟩
    by_cases hlt : k < bs.length
    · obtain ⟨ub, off, rfl, hub, hxx⟩ := (hU.out.below HW.out).u8 (by omega)
      have x1 := hxx k hlt
      have hbb := HUB.out (bs[k]?.getD 0) (by rw [List.getElem?_eq_getElem hlt]; exact List.getElem_mem hlt)
      have y0 := (bG.out.below HW.out).cell 0
      simp only [List.getElem?_toArray, List.getElem?_cons_zero, List.getElem?_cons_succ] at y0
      have hN := hQN.out
      have hva := vsOf_at hN.1 bs k hlt
      have hvl : (vsOf N bs)[k]?.getD 0 < N := by
        rw [List.getElem?_eq_getElem (by rw [vsOf_len]; exact hlt)]
        exact vsOf_lt hN.1 bs _ (List.getElem_mem _)
      have HST : Hid (dropTo (dOf ds) (vsOf N bs) (k + 1) = addT (dropTo (dOf ds) (vsOf N bs) k) ((vsOf N bs)[k]?.getD 0) 1) := rfl
      have hM := dropTo_mono (dOf ds) (vsOf N bs) ((vsOf N bs)[k]?.getD 0) 0 k (Nat.zero_le _)
      rw [show dropTo (dOf ds) (vsOf N bs) 0 = dOf ds from rfl] at hM
      have hd60 := d60 HPK.out.2 ((vsOf N bs)[k]?.getD 0) (by rw [hN.2.2.2]; exact hvl)
      have hrem : Int.tmod (bs[k]?.getD 0) g.n = (((vsOf N bs)[k]?.getD 0 : Nat) : Int) := by
        rw [hva, Int.tmod_eq_emod_of_nonneg hbb.1, hN.2.2.1]
      generalize (vsOf N bs)[k]?.getD 0 = v at *
      generalize bs[k]?.getD 0 = b at *
      generalize dropTo (dOf ds) (vsOf N bs) k = M at *
      have wb8 : IntKind.i64.wrap b = b := IntWalk.i64_in _ (by omega)
      have cz := owns_int HO.out v hvl
      rw [vecOf_get _ _ _ hvl] at cz
      have fz := HO.out.frozenAt v
      have lz := (owns_lt HO.out).2
      have hv1 : (v : Int) < (N : Int) := by omega
      have hv0 : (0 : Int) ≤ (v : Int) := by omega
      have hkl : (k : Int) < (bs.length : Int) := by omega
      have hk0 : (0 : Int) ≤ (k : Int) := by omega
      have hg0 : ¬ (g.n = 0) := by omega
      have hg1 : (g.n == 0) = false := by simpa using hg0
      have wv : IntKind.i64.wrap (M v + 1) = M v + 1 := IntWalk.i64_in _ (by have := H20.out; omega)
      have wk : IntKind.i64.wrap ((k : Int) + 1) = (k : Int) + 1 := IntWalk.i64_in _ (by have := H20.out; omega)
      have hst := owns_set (f := Value.int .i64) HO.out v (M v + 1)
      rw [vecOf_set, addT_set] at hst
      have HO2 := hid hst
      have HW2 := hid (HW.out.setCell (p := ⟨wb, v, none⟩) HWB.out (.int .i64 (M v + 1)))
      clear hst hM hd60 hbb hxx hva hN HO HW
      go_wp2_with fail
      refine ⟨⟨k + 1, by omega, by simp, ?_, HW2⟩, by simp [intOf]; omega⟩
      rw [HST.out]; exact HO2
    · obtain rfl : k = bs.length := by omega
      have HW := HW
      have hN := hQN.out
      have HI4 : Hid (IntsR W4 (.slice (some ⟨wb, 0, none⟩) N wc) (vecOf N (dropTo (dOf ds) (vsOf N bs) bs.length))) := owns_intsN HO.out (vecOf_len _ _) (by omega)
      have hst := HPS.out W4 _ _ HW.out HI4.out
      have hwl := HWL.out (by rw [vsOf_len]; have := H20.out; omega) (dropTo (dOf ds) (vsOf N bs) bs.length) (fun u hu => by rw [vsOf_len])
      have y0 := (bG.out.below HW.out).cell 0
      have y1 := (bG.out.below HW.out).cell 1
      have x0 := (bX.out.below HW.out).cell 0
      simp only [List.getElem?_toArray, List.getElem?_cons_zero, List.getElem?_cons_succ] at y0 y1 x0
      have HST := hid hst
      clear hst HO HI4 hN
      rcases hwl with e12 | ⟨r, er, es, hrn, hrs⟩
      · have HST2 : Hid (Calls Try.prog 9 #[.agg #[.int .i64 g.n, .slice a g.es.length cap], .int .i64 q, .slice (some ⟨wb, 0, none⟩) N wc] W4 fun e w' => Below W4.heap.size W4 w' ∧ e = .returned (.tuple #[.slice none 0 0, .slice none 0 0, .int .i64 12])) := by
          have h := HST.out
          rw [e12] at h
          exact h
        clear HST e12
        go_wp2_with fail
        refine HST2.out.mono ?_
        rintro e w5 ⟨hB5, rfl⟩
        have B5 := hid (HW.out.trans (hB5.mono HW.out.size))
        clear hB5 HST2
        dsimp only
        go_wp2_with fail
        refine (hCP.out _).mono ?_
        rintro e wz ⟨rfl, hBz⟩
        dsimp only
        go_wp2_with fail
        go_ret
        exact ⟨rfl, up (up HB.out B5.out) hBz⟩
      have HER := hid er
      have HST2 : Hid (Calls Try.prog 9 #[.agg #[.int .i64 g.n, .slice a g.es.length cap], .int .i64 q, .slice (some ⟨wb, 0, none⟩) N wc] W4 (RetTri 3 W4 N (.inr r))) := by
        have h := HST.out
        rw [er] at h
        exact h
      have HBOTH := hid (fun (l : List Nat) (hl : l = vsOf N bs ∨ l = (vsOf N bs).reverse) => HAVL.out HWN.out l (by rcases hl with rfl | rfl <;> simp only [List.length_reverse, vsOf_len] <;> (have := H20.out; omega)) (HVL.out l hl) (dropTo (dOf ds) (vsOf N bs) bs.length) (by
        rcases hl with rfl | rfl
        · intro u hu; rw [vsOf_len]
        · intro u hu
          rw [dropTo_count _ _ _ _ (by rw [vsOf_len]; omega), dropTo_count _ _ _ _ (Nat.le_refl _), List.take_length, List.count_reverse, show bs.length = (vsOf N bs).length from (vsOf_len _ _).symm, List.take_length]) r es)
      have HRN := hid hrn
      have HRS := hid hrs
      clear HST er es hrn hrs HER
      go_wp2_with fail
      refine HST2.out.mono ?_
      rintro e w5 ⟨hB5, eb, ec, sb, sc', rfl, hoe, hos⟩
      have HEND : Hid (IntsR w5 (.slice (some ⟨eb, 0, none⟩) N ec) (vecOf N r.L)) := owns_intsN hoe (vecOf_len _ _) (by have := hQN.out; omega)
      have HODO := hid hos
      have B5 := hid (HW.out.trans (hB5.mono HW.out.size))
      clear hB5 HST2 hoe hos y0 y1 x0 HW
      dsimp only
      go_wp2_with fail
      go_loopw [13, 83] (fun tv iv wr => ∃ k : Nat, k ≤ N ∧ iv = .int .i64 k ∧ tv = .int .i64 (sumTo r.T k) ∧ wr = w5) (fun _ iv _ => N - (intOf iv).toNat)
      case atStart => exact ⟨0, Nat.zero_le _, rfl, rfl, rfl⟩
      case round =>
        obtain ⟨k, hk, rfl, rfl, rfl⟩ := hrel
        by_cases hlt : k < N
        · have cz := owns_int HODO.out k hlt
          rw [vecOf_get _ _ _ hlt] at cz
          have h1 := sum_part HRN.out k (by omega)
          have h2 := sum_part HRN.out (k + 1) (by omega)
          have h3 := HRS.out
          rw [maxF_eq] at h3
          have e1 : sumTo r.T (k + 1) = sumTo r.T k + r.T k := rfl
          have HE1 := hid e1
          have ws : IntKind.i64.wrap (sumTo r.T k + r.T k) = sumTo r.T k + r.T k := IntWalk.i64_in _ (by omega)
          have wk : IntKind.i64.wrap ((k : Int) + 1) = (k : Int) + 1 := IntWalk.i64_in _ (by have := hQN.out; omega)
          have hkl : (k : Int) < (N : Int) := by omega
          have hk0 : (0 : Int) ≤ (k : Int) := by omega
          clear h1 h2 h3 e1
          generalize sumTo r.T k = sk at *
          generalize r.T k = tk at *
          go_wp2_with fail
          exact ⟨⟨k + 1, by omega, by simp, by rw [HE1.out], by first | rfl | trivial⟩, by simp [intOf]; omega⟩
        · obtain rfl : N = k := by omega
          obtain ⟨W6, hW6⟩ : ∃ W6, W6 = wr.alloc (.cells #[.bool false, .bool true] 4) := ⟨_, rfl⟩
          have lb0 : Blk W6 wr.heap.size #[.bool false, .bool true] 4 := by rw [hW6]; exact Blk.new _ _ _
          have HLB := hid lb0
          have HEND6 : Hid (IntsR W6 (.slice (some ⟨eb, 0, none⟩) N ec) (vecOf N r.L)) := by rw [hW6]; exact HEND.out.alloc _
          have B6 : Hid (Below W1.heap.size W1 W6) := by rw [hW6]; exact B5.out.alloc B5.out.size _
          have HW6 := hid hW6
          clear hW6 lb0
          go_wp2_with fail
          rw [← HW6.out]
          generalize wr.heap.size = lb at *
          go_loopw [93] (fun iv wr => ∃ j : Nat, ∃ z : Int, z = (j : Int) ∧ j ≤ 2 ∧ iv = .int .i64 z ∧ Hid (Blk wr lb #[.bool false, .bool true] 4) ∧ Hid (IntsR wr (.slice (some ⟨eb, 0, none⟩) N ec) (vecOf N r.L)) ∧ Hid (Below W1.heap.size W1 wr)) (fun iv _ => 2 - (intOf iv).toNat)
          case atStart => exact ⟨0, 0, rfl, by omega, rfl, HLB, HEND6, B6⟩
          case round =>
            clear HLB HEND6 B6 HODO HEND B5 HRN HRS
            obtain ⟨j, z, hz, hj, rfl, HLB, HEND, HW⟩ := hrel
            obtain ⟨W7, rfl⟩ : ∃ W7 : World, W7 = wr := ⟨_, rfl⟩
            obtain rfl | rfl | rfl := (show z = 0 ∨ z = 1 ∨ z = 2 by omega)
            all_goals clear hz hj
            · have x1 := (bX.out.below HW.out).cell 1
              have y0 := (bG.out.below HW.out).cell 0
              have y1 := (bG.out.below HW.out).cell 1
              simp only [List.getElem?_toArray, List.getElem?_cons_zero, List.getElem?_cons_succ] at x1 y0 y1
              have hlb := HLB.out.cell 0
              simp only [List.getElem?_toArray, List.getElem?_cons_zero, List.getElem?_cons_succ] at hlb
              have HAV := hid (HBOTH.out (vsOf N bs) (.inl rfl))
              go_wp2_with fail
              clear x1 y0 y1 hlb
              go_loopw [18, 19, 101] (fun nv sz iv wr => ∃ m : Nat, m ≤ bs.length ∧ iv = .int .i64 m ∧ sz = .int .i64 (avTo g q N (dOf ds) (vsOf N bs) m).2 ∧ Hid (IntsR wr nv (vecOf N (avTo g q N (dOf ds) (vsOf N bs) m).1)) ∧ Hid (Below W7.heap.size W7 wr)) (fun _ _ iv _ => bs.length - (intOf iv).toNat)
              case atStart =>
                refine ⟨0, Nat.zero_le _, rfl, rfl, ?_, Below.refl _ _⟩
                show IntsR _ _ (vecOf N (dOf ds))
                rw [vec_dOf HLN.out]
                have h := hD.out.below HW.out
                exact h
              case round =>
                obtain ⟨m, hm, rfl, rfl, HNOW, HW8⟩ := hrel
                obtain ⟨W8, rfl⟩ : ∃ W8 : World, W8 = wr := ⟨_, rfl⟩
                have HW9 := hid (HW.out.trans (HW8.out.mono HW.out.size))
                obtain ⟨na, nc, rfl, _⟩ := HNOW.out
                have hvl0 := vecOf_len N (avTo g q N (dOf ds) (vsOf N bs) m).1
                have HNOW2 := HNOW.out
                rw [hvl0] at HNOW2 ⊢
                have HNW := hid HNOW2
                clear hvl0 HNOW2 HNOW
                by_cases hlt : m < bs.length
                · obtain ⟨s, es, eok, eq, enx⟩ := HAV.out.2.1 m (by simp only [List.length_reverse, vsOf_len]; exact hlt)
                  have eo := HAO.out _ _ (HAV.out.1 m (by simp only [List.length_reverse, vsOf_len]; omega))
                  have eo2 := HAO.out _ _ (HAV.out.1 (m + 1) (by simp only [List.length_reverse, vsOf_len]; omega))
                  have hN := hQN.out
                  obtain ⟨ub, off, rfl, hub, hxx⟩ := (hU.out.below HW9.out).u8 (by omega)
                  have x1 := hxx m (by omega)
                  have hbb := HUB.out (bs[m]?.getD 0) (by rw [List.getElem?_eq_getElem (by omega)]; exact List.getElem_mem (by omega))
                  have hva := vsOf_at hN.1 bs m (by omega)
                  have hvi : (vsOf N bs)[m]?.getD 0 = (vsOf N bs)[m]?.getD 0 := rfl
                  rw [← hvi] at hva
                  have hvl : (vsOf N bs)[m]?.getD 0 < N := by
                    rw [hvi, List.getElem?_eq_getElem (by rw [vsOf_len]; omega)]
                    exact vsOf_lt hN.1 bs _ (List.getElem_mem _)
                  have HA := hid (fun (w' : World) (nv' : Value) (h : Below W1.heap.size W1 w') (h2 : IntsR w' nv' (vecOf N (avTo g q N (dOf ds) (vsOf N bs) m).1)) =>
                    HPA.out _ nv' ((vsOf N bs)[m]?.getD 0) w' h h2 eo.1 eo.2.1 hvl eok s es eq)
                  have hrem : Int.tmod (bs[m]?.getD 0) g.n = (((vsOf N bs)[m]?.getD 0 : Nat) : Int) := by
                    rw [hva, Int.tmod_eq_emod_of_nonneg hbb.1, hN.2.2.1]
                  have HCF := hid eo2.1
                  have HCLM := hid (HCMK.out _ eo2.2.1)
                  rw [enx] at HCF HCLM
                  dsimp only at HCF HCLM
                  have ws : IntKind.i64.wrap ((avTo g q N (dOf ds) (vsOf N bs) m).2 + sumTo s.T N) = (avTo g q N (dOf ds) (vsOf N bs) m).2 + sumTo s.T N := IntWalk.i64_in _ (by
                    have h1 := eo2.2.2.1
                    have h2 := eo2.2.2.2
                    rw [enx] at h1 h2
                    dsimp only at h1 h2
                    omega)
                  have HEN := hid enx
                  generalize avTo g q N (dOf ds) (vsOf N bs) m = pm at *
                  obtain ⟨pL, pz⟩ := pm
                  dsimp only at ws HEN HNW HA ⊢
                  generalize (vsOf N bs)[m]?.getD 0 = v at *
                  generalize bs[m]?.getD 0 = b at *
                  have wb8 : IntKind.i64.wrap b = b := IntWalk.i64_in _ (by omega)
                  have wk : IntKind.i64.wrap ((m : Int) + 1) = (m : Int) + 1 := IntWalk.i64_in _ (by have := H20.out; omega)
                  have hml : (m : Int) < (bs.length : Int) := by omega
                  have hm0 : (0 : Int) ≤ (m : Int) := by omega
                  have hg1 : (g.n == 0) = false := by have : ¬ g.n = 0 := by omega
                                                      simpa using this
                  have hg2 : ¬ (g.n = 0) := by omega
                  have hnn : ((N : Int) != g.n) = false := by rw [hN.2.2.1]; simp
                  clear es eok eq enx eo eo2 hN hxx hbb hva hvi hvl hub 
                  let S : World → Prop := fun w' => w'.cell? ⟨w.heap.size, 0, none⟩ = some (.int .i64 g.n) ∧ w'.cell? ⟨w.heap.size, 1, none⟩ = some (.slice a g.es.length cap) ∧ w'.cell? ⟨w.heap.size + 1, 0, none⟩ = some (.int .i64 q)
                  have hSk : Hid (∀ W, Below W1.heap.size W1 W → S W) := fun W h => ⟨(bG.out.below h).cell 0, (bG.out.below h).cell 1, (bX.out.below h).cell 0⟩
                  go_wp2_with fail
                  (refine wp_region_text 18 [0,1,2,3,4,5,6,7,8,9,10,11,12,13,14,15,16,17] S (by kernel_rfl) (by kernel_rfl) (by intro _ _ d _ _ h; cases d <;> exact h) ?hS ?_; rotate_left; simp only [List.map_cons, List.map_nil, List.getD_cons_zero, List.getD_cons_succ, List.drop_succ_cons, List.drop_zero])
                  case hS => exact hSk.out _ (HW9.out.drew)
                  (repeat (refine' wpSeq_take rfl _ (by rfl) ?_ ?_; rotate_left; focus (intro w' hS; (try dsimp only at hS); obtain ⟨s1, s2, s3⟩ := hS; go_simp; (first | done | with_reducible rfl)); (try simp only [Act.put, List.setIfInBounds_toArray, List.set_cons_zero, List.set_cons_succ])))
                  refine wpSeq_call rfl (by rfl) (fun K hK => ?_)
                  go_simp
                  refine (HA.out _ _ HW9.out.drew (HNW.out.below (Below.drew (Below.refl _ _)))).mono ?_
                  rintro e w9 ⟨hB9, b1, c1, b2, c2, rfl, hoL, hoT⟩
                  have hB10 := Below.trans (Below.drew (Below.refl W8.heap.size W8)) hB9
                  have HW10 := hid (HW9.out.trans (hB10.mono HW9.out.size))
                  have HW11 := hid (HW8.out.trans (hB10.mono HW8.out.size))
                  refine hK _ _ (hSk.out _ HW10.out) ?_
                  have HNX : Hid (IntsR w9 (.slice (some ⟨b1, 0, none⟩) N c1) (vecOf N s.L)) := owns_intsN hoL (vecOf_len _ _) (by have := hQN.out; omega)
                  have q0 := (bX.out.below HW10.out).cell 0
                  have y0 := (bG.out.below HW10.out).cell 0
                  have y1 := (bG.out.below HW10.out).cell 1
                  simp only [List.getElem?_toArray, List.getElem?_cons_zero, List.getElem?_cons_succ] at q0 y0 y1
                  clear hK K hB9 hB10 hoL hoT HNW HA x1
                  (repeat (refine' wpSeq_take rfl _ (by rfl) ?_ ?_; rotate_left; focus (intro w' hS; (try dsimp only at hS); obtain ⟨s1, s2, s3⟩ := hS; go_simp; (first | done | with_reducible rfl)); (try simp only [Act.put, List.setIfInBounds_toArray, List.set_cons_zero, List.set_cons_succ])))
                  refine wpSeq_nil ?_
                  clear S hSk
                  (try simp only [Act.put, List.setIfInBounds_toArray, List.set_cons_zero, List.set_cons_succ])
                  generalize hsm : sumTo s.T N = sm at *
                  have HSM := hid hsm
                  clear hsm
                  go_wp2_with fail
                  refine (r19_Check g _ q _ _ _ (hG.out.below HW10.out) HNX.out).mono ?_
                  rintro e w12 ⟨rfl, hB12⟩
                  rw [HCF.out]
                  have HW12 := hid (HW10.out.trans (hB12.mono HW10.out.size))
                  have HW13 := hid (HW11.out.trans (hB12.mono HW11.out.size))
                  have HNX2 := hid (HNX.out.below hB12)
                  clear hB12 q0 y0 y1 HNX
                  have q0 := (bX.out.below HW12.out).cell 0
                  have y0 := (bG.out.below HW12.out).cell 0
                  have y1 := (bG.out.below HW12.out).cell 1
                  simp only [List.getElem?_toArray, List.getElem?_cons_zero, List.getElem?_cons_succ] at q0 y0 y1
                  dsimp only
                  go_wp2_with fail
                  refine (HLC.out _ _ _ HW12.out HNX2.out (by rw [vecOf_len]; omega)).mono ?_
                  rintro e w14 ⟨rfl, hB14⟩
                  rw [HCLM.out]
                  have HW15 := hid (HW13.out.trans (hB14.mono HW13.out.size))
                  have HNX3 := hid (HNX2.out.below hB14)
                  clear hB14 q0 y0 y1 HNX2
                  dsimp only
                  go_wp2_with fail
                  go_roundw
                  case rel => exact ⟨m + 1, by omega, by go_num, by rw [HEN.out], by rw [HEN.out]; exact HNX3, HW15⟩
                  case measure => simp [intOf]; omega
                · obtain rfl : m = bs.length := by omega
                  have hE := HAV.out.2.2
                  simp only [List.length_reverse, vsOf_len] at hE
                  obtain ⟨hE1, hE2⟩ := hE
                  have HE2 := hid hE2
                  rw [hE1]
                  rw [hE2] at HNW
                  have HEN8 := hid (HEND.out.below HW8.out)
                  have HSA := hid (r17_Same_eq (vecOf N r.L) _ _ W8 HNW.out HEN8.out (by rw [vecOf_len]; have := hQN.out; omega))
                  have HLB8 := hid (HLB.out.below HW8.out)
                  have hnt : (sumTo r.T N != sumTo r.T N) = false := by simp
                  clear hE1 hE2
                  generalize htt : sumTo r.T N = tt at *
                  have HTT := hid htt
                  clear htt
                  go_wp2_with fail
                  refine HSA.out.mono ?_
                  rintro e w9 ⟨rfl, hB9⟩
                  have HW10 := hid (HW9.out.trans (hB9.mono HW9.out.size))
                  have HLB9 := hid (HLB8.out.below hB9)
                  have HEN9 := hid (HEN8.out.below hB9)
                  clear hB9 HLB8 HEN8
                  dsimp only
                  go_wp2_with fail
                  obtain rfl := HTT.out
                  go_roundw
                  case rel => first | exact ⟨1, 1, rfl, by omega, rfl, HLB9, HEN9, HW10⟩ | ((repeat apply Exists.intro); exact ⟨⟨1, 1, rfl, by omega, rfl, HLB9, HEN9, HW10⟩, rfl⟩)
                  case measure => simp [intOf]
            · have x1 := (bX.out.below HW.out).cell 1
              have y0 := (bG.out.below HW.out).cell 0
              have y1 := (bG.out.below HW.out).cell 1
              simp only [List.getElem?_toArray, List.getElem?_cons_zero, List.getElem?_cons_succ] at x1 y0 y1
              have hlb := HLB.out.cell 1
              simp only [List.getElem?_toArray, List.getElem?_cons_zero, List.getElem?_cons_succ] at hlb
              have HAV := hid (HBOTH.out (vsOf N bs).reverse (.inr rfl))
              go_wp2_with fail
              clear x1 y0 y1 hlb
              go_loopw [18, 19, 101] (fun nv sz iv wr => ∃ m : Nat, m ≤ bs.length ∧ iv = .int .i64 m ∧ sz = .int .i64 (avTo g q N (dOf ds) (vsOf N bs).reverse m).2 ∧ Hid (IntsR wr nv (vecOf N (avTo g q N (dOf ds) (vsOf N bs).reverse m).1)) ∧ Hid (Below W7.heap.size W7 wr)) (fun _ _ iv _ => bs.length - (intOf iv).toNat)
              case atStart =>
                refine ⟨0, Nat.zero_le _, rfl, rfl, ?_, Below.refl _ _⟩
                show IntsR _ _ (vecOf N (dOf ds))
                rw [vec_dOf HLN.out]
                have h := hD.out.below HW.out
                exact h
              case round =>
                obtain ⟨m, hm, rfl, rfl, HNOW, HW8⟩ := hrel
                obtain ⟨W8, rfl⟩ : ∃ W8 : World, W8 = wr := ⟨_, rfl⟩
                have HW9 := hid (HW.out.trans (HW8.out.mono HW.out.size))
                obtain ⟨na, nc, rfl, _⟩ := HNOW.out
                have hvl0 := vecOf_len N (avTo g q N (dOf ds) (vsOf N bs).reverse m).1
                have HNOW2 := HNOW.out
                rw [hvl0] at HNOW2 ⊢
                have HNW := hid HNOW2
                clear hvl0 HNOW2 HNOW
                by_cases hlt : m < bs.length
                · obtain ⟨s, es, eok, eq, enx⟩ := HAV.out.2.1 m (by simp only [List.length_reverse, vsOf_len]; exact hlt)
                  have eo := HAO.out _ _ (HAV.out.1 m (by simp only [List.length_reverse, vsOf_len]; omega))
                  have eo2 := HAO.out _ _ (HAV.out.1 (m + 1) (by simp only [List.length_reverse, vsOf_len]; omega))
                  have hN := hQN.out
                  obtain ⟨cc1, hcc⟩ : ∃ cc1 : Nat, cc1 = bs.length - 1 := ⟨_, rfl⟩
                  obtain ⟨dd, hdd⟩ : ∃ dd : Nat, dd = bs.length - 1 - m := ⟨_, rfl⟩
                  have wi1 : IntKind.i64.wrap ((bs.length : Int) - 1) = (cc1 : Int) := by rw [show (bs.length : Int) - 1 = (cc1 : Int) by omega]; exact IntWalk.i64_in _ (by have := H20.out; omega)
                  have wi2 : IntKind.i64.wrap ((cc1 : Int) - (m : Int)) = (dd : Int) := by rw [show (cc1 : Int) - (m : Int) = (dd : Int) by omega]; exact IntWalk.i64_in _ (by have := H20.out; omega)
                  have hdl1 : (dd : Int) < (bs.length : Int) := by omega
                  have hdl0 : (0 : Int) ≤ (dd : Int) := by omega
                  obtain ⟨ub, off, rfl, hub, hxx⟩ := (hU.out.below HW9.out).u8 (by omega)
                  have x1 := hxx dd (by omega)
                  have x0 := hxx m (by omega)
                  have hbb := HUB.out (bs[dd]?.getD 0) (by rw [List.getElem?_eq_getElem (by omega)]; exact List.getElem_mem (by omega))
                  have hva := vsOf_at hN.1 bs dd (by omega)
                  have hvi : (vsOf N bs).reverse[m]?.getD 0 = (vsOf N bs)[dd]?.getD 0 := by rw [hdd]; exact rev_at _ m hlt (vsOf_len _ _)
                  rw [← hvi] at hva
                  have hvl : (vsOf N bs).reverse[m]?.getD 0 < N := by
                    rw [hvi, List.getElem?_eq_getElem (by rw [vsOf_len]; omega)]
                    exact vsOf_lt hN.1 bs _ (List.getElem_mem _)
                  have HA := hid (fun (w' : World) (nv' : Value) (h : Below W1.heap.size W1 w') (h2 : IntsR w' nv' (vecOf N (avTo g q N (dOf ds) (vsOf N bs).reverse m).1)) =>
                    HPA.out _ nv' ((vsOf N bs).reverse[m]?.getD 0) w' h h2 eo.1 eo.2.1 hvl eok s es eq)
                  have hrem : Int.tmod (bs[dd]?.getD 0) g.n = (((vsOf N bs).reverse[m]?.getD 0 : Nat) : Int) := by
                    rw [hva, Int.tmod_eq_emod_of_nonneg hbb.1, hN.2.2.1]
                  have HCF := hid eo2.1
                  have HCLM := hid (HCMK.out _ eo2.2.1)
                  rw [enx] at HCF HCLM
                  dsimp only at HCF HCLM
                  have ws : IntKind.i64.wrap ((avTo g q N (dOf ds) (vsOf N bs).reverse m).2 + sumTo s.T N) = (avTo g q N (dOf ds) (vsOf N bs).reverse m).2 + sumTo s.T N := IntWalk.i64_in _ (by
                    have h1 := eo2.2.2.1
                    have h2 := eo2.2.2.2
                    rw [enx] at h1 h2
                    dsimp only at h1 h2
                    omega)
                  have HEN := hid enx
                  generalize avTo g q N (dOf ds) (vsOf N bs).reverse m = pm at *
                  obtain ⟨pL, pz⟩ := pm
                  dsimp only at ws HEN HNW HA ⊢
                  generalize (vsOf N bs).reverse[m]?.getD 0 = v at *
                  generalize bs[dd]?.getD 0 = b at *
                  have wb8 : IntKind.i64.wrap b = b := IntWalk.i64_in _ (by omega)
                  have wk : IntKind.i64.wrap ((m : Int) + 1) = (m : Int) + 1 := IntWalk.i64_in _ (by have := H20.out; omega)
                  have hml : (m : Int) < (bs.length : Int) := by omega
                  have hm0 : (0 : Int) ≤ (m : Int) := by omega
                  have hg1 : (g.n == 0) = false := by have : ¬ g.n = 0 := by omega
                                                      simpa using this
                  have hg2 : ¬ (g.n = 0) := by omega
                  have hnn : ((N : Int) != g.n) = false := by rw [hN.2.2.1]; simp
                  clear es eok eq enx eo eo2 hN hxx hbb hva hvi hvl hub hcc hdd 
                  let S : World → Prop := fun w' => w'.cell? ⟨w.heap.size, 0, none⟩ = some (.int .i64 g.n) ∧ w'.cell? ⟨w.heap.size, 1, none⟩ = some (.slice a g.es.length cap) ∧ w'.cell? ⟨w.heap.size + 1, 0, none⟩ = some (.int .i64 q)
                  have hSk : Hid (∀ W, Below W1.heap.size W1 W → S W) := fun W h => ⟨(bG.out.below h).cell 0, (bG.out.below h).cell 1, (bX.out.below h).cell 0⟩
                  go_wp2_with fail
                  (refine wp_region_text 18 [0,1,2,3,4,5,6,7,8,9,10,11,12,13,14,15,16,17] S (by kernel_rfl) (by kernel_rfl) (by intro _ _ d _ _ h; cases d <;> exact h) ?hS ?_; rotate_left; simp only [List.map_cons, List.map_nil, List.getD_cons_zero, List.getD_cons_succ, List.drop_succ_cons, List.drop_zero])
                  case hS => exact hSk.out _ (HW9.out.drew)
                  (repeat (refine' wpSeq_take rfl _ (by rfl) ?_ ?_; rotate_left; focus (intro w' hS; (try dsimp only at hS); obtain ⟨s1, s2, s3⟩ := hS; go_simp; (first | done | with_reducible rfl)); (try simp only [Act.put, List.setIfInBounds_toArray, List.set_cons_zero, List.set_cons_succ])))
                  refine wpSeq_call rfl (by rfl) (fun K hK => ?_)
                  go_simp
                  refine (HA.out _ _ HW9.out.drew (HNW.out.below (Below.drew (Below.refl _ _)))).mono ?_
                  rintro e w9 ⟨hB9, b1, c1, b2, c2, rfl, hoL, hoT⟩
                  have hB10 := Below.trans (Below.drew (Below.refl W8.heap.size W8)) hB9
                  have HW10 := hid (HW9.out.trans (hB10.mono HW9.out.size))
                  have HW11 := hid (HW8.out.trans (hB10.mono HW8.out.size))
                  refine hK _ _ (hSk.out _ HW10.out) ?_
                  have HNX : Hid (IntsR w9 (.slice (some ⟨b1, 0, none⟩) N c1) (vecOf N s.L)) := owns_intsN hoL (vecOf_len _ _) (by have := hQN.out; omega)
                  have q0 := (bX.out.below HW10.out).cell 0
                  have y0 := (bG.out.below HW10.out).cell 0
                  have y1 := (bG.out.below HW10.out).cell 1
                  simp only [List.getElem?_toArray, List.getElem?_cons_zero, List.getElem?_cons_succ] at q0 y0 y1
                  clear hK K hB9 hB10 hoL hoT HNW HA x1 x0
                  (repeat (refine' wpSeq_take rfl _ (by rfl) ?_ ?_; rotate_left; focus (intro w' hS; (try dsimp only at hS); obtain ⟨s1, s2, s3⟩ := hS; go_simp; (first | done | with_reducible rfl)); (try simp only [Act.put, List.setIfInBounds_toArray, List.set_cons_zero, List.set_cons_succ])))
                  refine wpSeq_nil ?_
                  clear S hSk
                  (try simp only [Act.put, List.setIfInBounds_toArray, List.set_cons_zero, List.set_cons_succ])
                  generalize hsm : sumTo s.T N = sm at *
                  have HSM := hid hsm
                  clear hsm
                  go_wp2_with fail
                  refine (r19_Check g _ q _ _ _ (hG.out.below HW10.out) HNX.out).mono ?_
                  rintro e w12 ⟨rfl, hB12⟩
                  rw [HCF.out]
                  have HW12 := hid (HW10.out.trans (hB12.mono HW10.out.size))
                  have HW13 := hid (HW11.out.trans (hB12.mono HW11.out.size))
                  have HNX2 := hid (HNX.out.below hB12)
                  clear hB12 q0 y0 y1 HNX
                  have q0 := (bX.out.below HW12.out).cell 0
                  have y0 := (bG.out.below HW12.out).cell 0
                  have y1 := (bG.out.below HW12.out).cell 1
                  simp only [List.getElem?_toArray, List.getElem?_cons_zero, List.getElem?_cons_succ] at q0 y0 y1
                  dsimp only
                  go_wp2_with fail
                  refine (HLC.out _ _ _ HW12.out HNX2.out (by rw [vecOf_len]; omega)).mono ?_
                  rintro e w14 ⟨rfl, hB14⟩
                  rw [HCLM.out]
                  have HW15 := hid (HW13.out.trans (hB14.mono HW13.out.size))
                  have HNX3 := hid (HNX2.out.below hB14)
                  clear hB14 q0 y0 y1 HNX2
                  dsimp only
                  go_wp2_with fail
                  go_roundw
                  case rel => exact ⟨m + 1, by omega, by go_num, by rw [HEN.out], by rw [HEN.out]; exact HNX3, HW15⟩
                  case measure => simp [intOf]; omega
                · obtain rfl : m = bs.length := by omega
                  have hE := HAV.out.2.2
                  simp only [List.length_reverse, vsOf_len] at hE
                  obtain ⟨hE1, hE2⟩ := hE
                  have HE2 := hid hE2
                  rw [hE1]
                  rw [hE2] at HNW
                  have HEN8 := hid (HEND.out.below HW8.out)
                  have HSA := hid (r17_Same_eq (vecOf N r.L) _ _ W8 HNW.out HEN8.out (by rw [vecOf_len]; have := hQN.out; omega))
                  have HLB8 := hid (HLB.out.below HW8.out)
                  have hnt : (sumTo r.T N != sumTo r.T N) = false := by simp
                  clear hE1 hE2
                  generalize htt : sumTo r.T N = tt at *
                  have HTT := hid htt
                  clear htt
                  go_wp2_with fail
                  refine HSA.out.mono ?_
                  rintro e w9 ⟨rfl, hB9⟩
                  have HW10 := hid (HW9.out.trans (hB9.mono HW9.out.size))
                  have HLB9 := hid (HLB8.out.below hB9)
                  have HEN9 := hid (HEN8.out.below hB9)
                  clear hB9 HLB8 HEN8
                  dsimp only
                  go_wp2_with fail
                  obtain rfl := HTT.out
                  go_roundw
                  case rel => first | exact ⟨2, 2, rfl, by omega, rfl, HLB9, HEN9, HW10⟩ | ((repeat apply Exists.intro); exact ⟨⟨2, 2, rfl, by omega, rfl, HLB9, HEN9, HW10⟩, rfl⟩)
                  case measure => simp [intOf]
            · have HW2 := HW
              clear HLB HEND
              go_wp2_with fail
              refine (hCP.out _).mono ?_
              rintro e wz ⟨rfl, hBz⟩
              dsimp only
              go_wp2_with fail
              go_ret
              exact ⟨rfl, up (up HB.out HW2.out) hBz⟩

end Go.Proofs.Ytbjoblkigbphhaa
