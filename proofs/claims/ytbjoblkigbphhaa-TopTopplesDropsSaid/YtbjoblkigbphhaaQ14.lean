/-
  Contracts of stabilize: calm, more, Avalanche, where all goes well.
-/
import Derived.Test.YtbjoblkigbphhaaQ11
namespace Go.Proofs.Ytbjoblkigbphhaa
set_option linter.unusedSimpArgs false
set_option linter.unusedVariables false
open Go.RowKit Go.Shelf

theorem PFr.rebase {w w1 : World} {f : PFr} (h : Below w.heap.size w w1) (h2 : Below w1.heap.size w1 f.W0) : Below w.heap.size w f.W0 := h.trans (h2.mono h.size)

set_option maxRecDepth 100000 in
set_option maxHeartbeats 4000000 in
theorem p_more (g : G) (gv : Value) (N : Nat) (hN1 : (N : Int) ≤ g.n) (hN2 : g.n ≤ (N : Int)) (q : Nat) (hq : q < N) (d : Nat → Int) (dv : Value) (v : Nat) (hv : v < N) (w : World) (hg : GrR w gv g) (hk : Gok g) (hd : IntsR w dv (vecOf N d)) (hb : -1048577 ≤ d v ∧ d v ≤ 1048577) :
    Calls Try.prog 33 #[gv, .int .i64 q, dv, .int .i64 v] w (RetPile w g N q (addT d v 1)) := by
  have hg' := hg
  obtain ⟨ev0, rfl, a, cap, rfl, _⟩ := hg'
  obtain ⟨hn1, hn2⟩ := hk.n
  have hW : Below w.heap.size w (w.alloc (.cells #[.int .i64 g.n, .slice a g.es.length cap] 24)) := by go_grown
  have hcl := c_Clone (vecOf N d) dv _ (hd.below hW) (by rw [vecOf_len]; omega)
  rw [vecOf_len] at hcl
  have HCL := hid hcl
  have HG := hid (fun (w' : World) (h : Below w.heap.size w w') => hg.below h)
  have HPO := hid (fun (w' : World) (gv' dv' : Value) (h1 : GrR w' gv' g) (h2 : IntsR w' dv' (vecOf N (addT d v 1))) => p_pileOf g gv' N hN1 hN2 q hq (addT d v 1) dv' w' h1 hk h2)
  have HV : Hid (addT d v 1 = fun i => if i = v then d v + 1 else d i) := by
    show addT d v 1 = _
    funext u
    unfold addT
    split
    · rename_i e; subst e; rfl
    · rfl
  have wv : IntKind.i64.wrap (d v + 1) = d v + 1 := IntWalk.i64_in _ (by omega)
  have hv1 : (v : Int) < (N : Int) := by omega
  have hv0 : (0 : Int) ≤ (v : Int) := by omega
  have HVN := hid hv
  have HN12 : Hid (N ≤ 1000000) := by show _ ≤ _; omega
  clear hg hd hcl hb hN1 hN2 hn1 hn2 hq hv hk
  go_enter Try.func33, Try.ntmps33
  go_wp2_with fail
  refine HCL.out.mono ?_
  rintro e w1 ⟨bo, co, rfl, hown, hB1⟩
  have hB := up hW hB1
  have HO2 := hid (owns_set (f := Value.int .i64) hown v (d v + 1))
  have cv := owns_int hown v HVN.out
  rw [vecOf_get _ _ _ HVN.out] at cv
  have fv := hown.frozenAt v
  have lv := (owns_lt hown).2
  have lb := (owns_lt hown).1
  have hlw : w.heap.size < bo := by have := lb; simp at this; omega
  have u1 := (Blk.new w #[.int .i64 g.n, .slice a g.es.length cap] 24).below hB1
  have u1' := u1.other (g := bo) (by omega) v (.int .i64 (d v + 1))
  have u2 := u1'.cell 0
  have u3 := u1'.cell 1
  simp only [List.getElem?_toArray, List.getElem?_cons_zero, List.getElem?_cons_succ] at u2 u3
  have HB2 := hid (hB.setCell (p := ⟨bo, v, none⟩) (Nat.le_of_lt hlw) (.int .i64 (d v + 1)))
  clear hown hB1 HCL u1 u1' lb hB hlw
  generalize hW2 : w1.setCell ⟨bo, v, none⟩ (.int .i64 (d v + 1)) = W2 at *
  have HW2 := hid hW2
  clear hW2
  dsimp only
  go_upto_region 3 with fail
  rw [HW2.out]
  clear HW2
  have HI2 : Hid (IntsR W2 (.slice (some ⟨bo, 0, none⟩) N co) (vecOf N (addT d v 1))) := by
    have h := HO2.out
    rw [vecOf_set, ← HV.out] at h
    exact owns_intsN h (vecOf_len _ _) HN12.out
  clear HO2 cv fv lv
  go_wp2_with fail
  refine (HPO.out W2 _ _ (HG.out _ HB2.out) HI2.out).mono ?_
  rintro e w3 ⟨f, wt, rfl, h1, h2, h3, h4, h5, h6⟩
  have HR : Hid (RetPile w g N q (addT d v 1) (.returned (.tuple #[.pointer (some ⟨f.b, 0, none⟩), .int .i64 0])) w3) := ⟨f, wt, rfl, h1, h2, h3, PFr.rebase HB2.out h4, h5, h6⟩
  clear h1 h2 h3 h4 h5 h6 HPO HG
  dsimp only
  go_wp2_with fail
  go_ret2
  exact HR.out

set_option maxRecDepth 100000 in
set_option maxHeartbeats 4000000 in
theorem p_calm (g : G) (gv : Value) (q : Int) (ds : List Int) (dv : Value) (w : World) (hg : GrR w gv g) (hd : IntsR w dv ds) (hc : cfgErr g q ds = 0) (hw : waitN g q g.n.toNat (dOf ds) = []) :
    Calls Try.prog 32 #[gv, .int .i64 q, dv] w fun e w' => Below w.heap.size w w' ∧ ∃ b, e = .returned (.tuple #[.pointer (some ⟨b, 0, none⟩), .int .i64 0]) := by
  have hg' := hg
  obtain ⟨ev0, rfl, a, cap, rfl, _⟩ := hg'
  have hW : Below w.heap.size w (w.alloc (.cells #[.int .i64 g.n, .slice a g.es.length cap] 24)) := by go_grown
  have hgv := hid (p_pgiven g _ q ds _ _ (hg.below hW) (hd.below hW))
  have HC := hid hc
  have HWT := hid hw
  clear hg hd hc hw
  go_enter Try.func32, Try.ntmps32
  go_wp2_with fail
  refine hgv.out.mono ?_
  rintro e w1 ⟨hB1, ⟨h0, _⟩ | ⟨_, f, wt, rfl, h1, h2, h3, h4, h5, h6⟩⟩
  · exact absurd HC.out h0
  have hnx := p_next f w1 _ _ _ wt h5
  have hft := firstT_wait f _ wt h6 h5.N12.2
  rw [h1, h2, h3, HWT.out] at hft
  rw [hft] at hnx
  have HB1 := hid (up hW hB1)
  have HNX := hid hnx
  clear hnx hft hgv h1 h2 h3 h4 h5 h6 hB1
  dsimp only
  go_wp2_with fail
  refine HNX.out.mono ?_
  rintro e w2 ⟨rfl, rfl⟩
  clear HNX
  dsimp only
  go_wp2_with fail
  go_ret2
  exact ⟨HB1.out, f.b, rfl⟩

/-- An avalanche is handed back. -/
def RetAv (w : World) (N : Nat) (s : St) (e : Ending) (w' : World) : Prop :=
  Below w.heap.size w w' ∧ ∃ b1 c1 b2 c2, e = .returned (.tuple #[.slice (some ⟨b1, 0, none⟩) N c1, .slice (some ⟨b2, 0, none⟩) N c2, .int .i64 (sumTo s.T N), .int .i64 0]) ∧
    w'.ownsRow w.heap.size 3 1 (.slice (some ⟨b1, 0, none⟩) N c1) N ((vecOf N s.L).map (Value.int .i64)) ∧
    w'.ownsRow w.heap.size 3 1 (.slice (some ⟨b2, 0, none⟩) N c2) N ((vecOf N s.T).map (Value.int .i64))

set_option maxRecDepth 100000 in
set_option maxHeartbeats 4000000 in
theorem p_Avalanche (g : G) (gv : Value) (q : Int) (ds : List Int) (dv : Value) (v : Nat) (w : World) (hg : GrR w gv g) (hd : IntsR w dv ds) (hc : cfgErr g q ds = 0) (hw : waitN g q g.n.toNat (dOf ds) = []) (hv : v < g.n.toNat)
    (hok : okS g.n.toNat 1048576 0 ⟨addT (dOf ds) v 1, fun _ => 0⟩) (s : St) (hs : stGo g q g.n.toNat (maxF + 1) 0 ⟨addT (dOf ds) v 1, fun _ => 0⟩ = some s) (hq : s.L q.toNat ≤ 1048576) :
    Calls Try.prog 10 #[gv, .int .i64 q, dv, .int .i64 v] w (RetAv w g.n.toNat s) := by
  have hg' := hg
  obtain ⟨ev0, rfl, a, cap, rfl, _⟩ := hg'
  have hd' := hd
  obtain ⟨da, dc, rfl, _⟩ := hd'
  obtain ⟨hk, hq0, hqn, hdl, hbd, _⟩ := cfg_ok hc
  have hn := hk.n
  have hW : Below w.heap.size w (w.alloc (.cells #[.int .i64 g.n, .slice a g.es.length cap] 24)) := by go_grown
  have HG := hid (fun (w' : World) (h : Below w.heap.size w w') => hg.below h)
  have HD := hid (fun (w' : World) (h : Below w.heap.size w w') => hd.below h)
  have hck := hid (p_stCheck g _ q ds _ _ (hg.below hW) (hd.below hW))
  rw [hc] at hck
  have HCM := hid (fun (w' : World) (h : Below w.heap.size w w') => p_calm g _ q ds _ w' (hg.below h) (hd.below h) hc hw)
  obtain ⟨Q, rfl⟩ := Int.eq_ofNat_of_zero_le hq0
  have hdN : ds = vecOf g.n.toNat (dOf ds) := by
    have := vecOf_self ds
    rw [show ds.length = g.n.toNat by omega] at this
    exact this.symm
  have HMO := hid (fun (w' : World) (h : Below w.heap.size w w') => p_more g _ g.n.toNat (by omega) (by omega) Q (by omega) (dOf ds) _ v hv w' (hg.below h) hk (by rw [← hdN]; exact hd.below h) (by
    have h1 := hok.1 v hv
    unfold addT at h1
    simp at h1
    omega))
  have HST := hid (fun (f : PFr) (wt : Nat → Bool) (w1 : World) (hN : f.N = g.n.toNat) (hq' : f.q = Q) (hgf : f.g = g) (hP : PiI f w1 (addT (dOf ds) v 1) (fun _ => 0) 0 wt) (hW' : WtOk f (addT (dOf ds) v 1) wt) => by
    have z : (0 : Int) = sumTo (fun _ => (0 : Int)) f.N := (sumTo_nil f.N).symm
    have h := p_settled f w1 ⟨addT (dOf ds) v 1, fun _ => 0⟩ 0 wt hP hW' (by rw [hN]; exact hok) z (Nat.zero_le _) (fun v hv hne => by
      rw [hgf]
      exact val_pos hk (cfg_con hc) (q := f.q) (by omega) (by omega) hne) (by omega)
    rw [hgf, hq', hN] at h
    rw [show ((0 : Nat) : Int) = 0 from rfl, Nat.sub_zero, hs] at h
    exact h)
  have hvn : (v : Int) < g.n := by omega
  have hvn2 : ¬ (g.n ≤ (v : Int)) := by omega
  have hv0 : ¬ ((v : Int) < 0) := by omega
  have HSQ := hid hq
  clear hg hd hc hw hok hs hq hdN hbd hdl hk hq0 hqn hn
  go_enter Try.func10, Try.ntmps10
  go_wp2_with fail
  refine hck.out.mono ?_
  rintro e w1 ⟨rfl, hB1⟩
  have u1 := (Blk.new w #[.int .i64 g.n, .slice a g.es.length cap] 24).below hB1
  have k1 := up hW hB1
  have U1 := hid u1
  have K1 := hid k1
  have c0 := u1.cell 0
  have c1 := u1.cell 1
  simp only [List.getElem?_toArray, List.getElem?_cons_zero, List.getElem?_cons_succ] at c0 c1
  clear hB1 hck u1 k1
  dsimp only
  go_wp2_with fail
  refine (HCM.out w1 K1.out).mono ?_
  rintro e w2 ⟨hB2, b, rfl⟩
  have K2 := hid (up K1.out hB2)
  have u1 := U1.out.below hB2
  have c0' := u1.cell 0
  have c1' := u1.cell 1
  simp only [List.getElem?_toArray, List.getElem?_cons_zero, List.getElem?_cons_succ] at c0' c1'
  clear hB2 c0 c1 U1 u1 HCM
  dsimp only
  go_wp2_with fail
  refine (HMO.out w2 K2.out).mono ?_
  rintro e w3 ⟨f, wt, rfl, h1, h2, h3, h4, h5, h6⟩
  have hst := hid (HST.out f wt w3 h1 h2 h3 h5 h6)
  have HB4 := hid (PFr.rebase K2.out h4)
  have H1 := hid h1
  have H2 := hid h2
  clear h1 h2 h3 h4 h5 h6 HMO HST c0' c1' HG HD
  dsimp only
  go_wp2_with fail
  refine hst.out.mono ?_
  rintro e w4 ⟨s', tot, wt2, hP, hK, hS, ⟨hz, rfl⟩ | ⟨hz, _⟩⟩
  · injection hz with hz
    subst hz
    have k2 := hid (HB4.out.trans (hP.below.mono HB4.out.size))
    have hl := owns_base hP.left HB4.out.size
    have hf := owns_base hP.fired HB4.out.size
    obtain ⟨p0, _, _, _, p4, p5⟩ := hP.cells
    have l0 := hP.blk.lt
    have HN := H1.out
    have e0 : (if 1048576 < s.L f.q then (11 : Int) else 0) = 0 := if_neg (by have h := HSQ.out; rw [Int.toNat_natCast] at h; rw [H2.out]; omega)
    rw [e0]
    rw [hS] at p5
    rw [HN] at hl hf p0 p4 p5
    have HL := hid hl
    have HF := hid hf
    clear hP hK hS hst HN e0 hl hf HSQ
    generalize hsm : sumTo s.T g.n.toNat = sm at *
    have HSM := hid hsm
    clear hsm
    dsimp only
    go_wp2
    go_quiet (fail)
    go_wp2
    (try simp only [Exit.inBlock, Exit.then])
    refine bodyPost_ret (results_tmp4 rfl _ _ _) rfl ?_
    refine ⟨below_dN k2.out _, f.bd, f.cd, f.bf, g.n.toNat, ?_, owns_dN HL.out _, owns_dN HF.out _⟩
    rw [HSM.out]
    rfl
  · cases hz

end Go.Proofs.Ytbjoblkigbphhaa
