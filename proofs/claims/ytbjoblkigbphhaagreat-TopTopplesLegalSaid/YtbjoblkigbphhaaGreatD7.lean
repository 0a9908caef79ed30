/-
  The law TopTopplesAgree, walked.
-/
import Derived.Test.YtbjoblkigbphhaaGreatD5
import Derived.Test.YtbjoblkigbphhaaGreatQ11
import Derived.Test.YtbjoblkigbphhaaGreatT0
namespace Go.Proofs.YtbjoblkigbphhaaGreat
set_option linter.unusedVariables false
set_option linter.unusedSimpArgs false
open Go.RowKit Go.Shelf

theorem run_out {g : G} {q : Int} {ds : List Int} {w w' : World} {e : Ending} (hc : cfgErr g q ds = 0) (hs : small17 ds = true) (h : RetRun g q ds w e w') : Below w.heap.size w w' ∧
    ((stabR g q ds = .inl 12 ∧ e = .returned (.tuple #[.slice none 0 0, .slice none 0 0, .int .i64 0, .int .i64 12])) ∨
     ∃ r va vs, ∃ R : Nat, stabR g q ds = .inr r ∧ e = .returned (.tuple #[va, vs, .int .i64 R, .int .i64 0]) ∧ IntsR w' va (vecOf g.n.toNat r.L) ∧ IntsR w' vs (vecOf g.n.toNat r.T)) := by
  have hn := (cfg_ok hc).1.n
  obtain ⟨hl1, hl2⟩ := rounds_law hc hs
  rcases h with ⟨h, _⟩ | ⟨_, hB, ⟨R, _, h1, rfl⟩ | ⟨R, _, h1, h2, h3⟩⟩
  · exact absurd hc h
  · exact ⟨hB, .inl ⟨hl1 R h1, rfl⟩⟩
  · obtain ⟨hb, r, hr, e1, e2⟩ := hl2 R h2 h1
    rcases h3 with ⟨h3, _⟩ | ⟨_, va, vs, rfl, ho1, ho2⟩
    · rw [hb] at h3; cases h3
    · rw [e1] at ho1
      rw [e2] at ho2
      have hlL := vecOf_len g.n.toNat r.L
      have hlT := vecOf_len g.n.toNat r.T
      refine ⟨hB, .inr ⟨r, va, vs, R, hr, rfl, owns_ints (by rw [hlL]; exact ho1) (by omega), owns_ints (by rw [hlT]; exact ho2) (by omega)⟩⟩
def TriP (N : Nat) (r : Int ⊕ St) (e : Ending) (w' : World) : Prop :=
  match r with
  | .inl k => e = .returned (.tuple #[.slice none 0 0, .slice none 0 0, .int .i64 k])
  | .inr s => ∃ va vs, e = .returned (.tuple #[va, vs, .int .i64 0]) ∧ IntsR w' va (vecOf N s.L) ∧ IntsR w' vs (vecOf N s.T)
theorem tri_out {N : Nat} {r : Int ⊕ St} {w w' : World} {e : Ending} (hN : N ≤ 12) (h : RetTri 3 w N r e w') : Below w.heap.size w w' ∧ TriP N r e w' := by
  obtain ⟨hB, h⟩ := h
  refine ⟨hB, ?_⟩
  cases r with
  | inl k => exact h
  | inr s =>
    obtain ⟨b1, c1, b2, c2, e, h1, h2⟩ := h
    exact ⟨_, _, e, owns_intsN h1 (vecOf_len _ _) (by omega), owns_intsN h2 (vecOf_len _ _) (by omega)⟩
def QuadP (N : Nat) (r : Int ⊕ Dr) (e : Ending) (w' : World) : Prop :=
  match r with
  | .inl k => e = .returned (.tuple #[.slice none 0 0, .slice none 0 0, .int .i64 0, .int .i64 k])
  | .inr s => ∃ va vs, e = .returned (.tuple #[va, vs, .int .i64 s.most, .int .i64 0]) ∧ IntsR w' va (vecOf N s.L) ∧ IntsR w' vs (vecOf N s.T)
theorem quad_out {N : Nat} {r : Int ⊕ Dr} {w w' : World} {e : Ending} (hN : N ≤ 12) (h : RetQuad 3 w N r e w') : Below w.heap.size w w' ∧ QuadP N r e w' := by
  obtain ⟨hB, h⟩ := h
  refine ⟨hB, ?_⟩
  cases r with
  | inl k => exact h
  | inr s =>
    obtain ⟨b1, c1, b2, c2, e, h1, h2⟩ := h
    exact ⟨_, _, e, owns_intsN h1 (vecOf_len _ _) (by omega), owns_intsN h2 (vecOf_len _ _) (by omega)⟩
theorem pileB_ok {g : G} {q : Int} {ds ps : List Int} (h : pileB g q ds ps = true) : cfgErr g q ds = 0 ∧ small17 ds = true ∧ pkErr ps = 0 := by
  unfold pileB at h
  simp only [Bool.and_eq_true, beq_iff_eq] at h
  exact ⟨h.1.1.1.2, h.1.1.2, h.2⟩

set_option maxRecDepth 100000 in
set_option maxHeartbeats 8000000 in
theorem l_Agree (g : G) (gv : Value) (q : Int) (ds ps ss : List Int) (xv : Value) (w : World) (hg : GrR w gv g) (hx : PileR w xv q ds ps ss) :
    Calls Tryz.prog 4 #[gv, xv] w fun e w' => e = .returned (.bool true) ∧ Below w.heap.size w w' := by
  have hg' := hg
  obtain ⟨ev, rfl, _⟩ := hg'
  have hx' := hx
  obtain ⟨dv, pv, sv, rfl, hd, hp, hs⟩ := hx'
  have hd' := hd
  obtain ⟨da, dc, rfl, _⟩ := hd'
  have hp' := hp
  obtain ⟨pa, pc, rfl, _⟩ := hp'
  obtain ⟨sa, sc, rfl, _⟩ := hs
  obtain ⟨W1, hW1⟩ : ∃ W : World, W = (w.alloc (.cells #[.int .i64 g.n, ev] 24)).alloc (.cells #[.int .i64 q, .slice da ds.length dc, .slice pa ps.length pc, .slice sa ss.length sc] 29) := ⟨_, rfl⟩
  have hB : Below w.heap.size w W1 := by rw [hW1]; exact ((Below.refl _ _).alloc (Nat.le_refl _) _).alloc (by simp) _
  have bG : Hid (Blk W1 w.heap.size #[.int .i64 g.n, ev] 24) := by rw [hW1]; exact (Blk.new _ _ _).alloc _
  have bX : Hid (Blk W1 (w.heap.size + 1) #[.int .i64 q, .slice da ds.length dc, .slice pa ps.length pc, .slice sa ss.length sc] 29) := by rw [hW1]; have := Blk.new (w.alloc (.cells #[.int .i64 g.n, ev] 24)) #[.int .i64 q, .slice da ds.length dc, .slice pa ps.length pc, .slice sa ss.length sc] 29; rw [World.size_alloc] at this; exact this
  have hG := hid (hg.below hB)
  have hD := hid (hd.below hB)
  have hP := hid (hp.below hB)
  have hX : Hid (PileR W1 (.agg #[.int .i64 q, .slice da ds.length dc, .slice pa ps.length pc, .slice sa ss.length sc]) q ds ps ss) := by
    obtain ⟨dv, pv, sv, e, h1, h2, h3⟩ := hx
    exact ⟨dv, pv, sv, e, h1.below hB, h2.below hB, h3.below hB⟩
  have HB := hid hB
  have hCP := hid (fun w => l_cases w)
  have HCC : Hid (∀ W', Below W1.heap.size W1 W' → (W'.cell? ⟨w.heap.size, 0, none⟩ = some (.int .i64 g.n) ∧ W'.cell? ⟨w.heap.size, 1, none⟩ = some ev) ∧ (W'.cell? ⟨w.heap.size + 1, 0, none⟩ = some (.int .i64 q) ∧ W'.cell? ⟨w.heap.size + 1, 1, none⟩ = some (.slice da ds.length dc) ∧ W'.cell? ⟨w.heap.size + 1, 2, none⟩ = some (.slice pa ps.length pc) ∧ W'.cell? ⟨w.heap.size + 1, 3, none⟩ = some (.slice sa ss.length sc)) ∧ w.heap.size < W'.heap.size ∧ w.heap.size + 1 < W'.heap.size) := fun W' h => by
    have h1 := bG.out.below h
    have h2 := bX.out.below h
    exact ⟨⟨h1.cell 0, h1.cell 1⟩, ⟨h2.cell 0, h2.cell 1, h2.cell 2, h2.cell 3⟩, h1.lt, h2.lt⟩
  obtain ⟨⟨c0, c1⟩, ⟨d0, d1, d2, d3⟩, lg, lx⟩ := HCC.out W1 (Below.refl _ _)
  clear hg hd hp hx hB
  go_enter Tryz.func4, Tryz.ntmps4
  go_wp2_with fail
  rw [← hW1]
  clear hW1
  refine (l_pile g _ q ds ps ss _ _ hG.out hX.out).mono ?_
  rintro e w1 ⟨rfl, hB1⟩
  have B1 := hid hB1
  clear hB1 c0 c1 d0 d1 d2 d3 lg lx
  cases hf : pileB g q ds ps with
  | false =>
    dsimp only
    go_wp2_with fail
    refine (hCP.out _).mono ?_
    rintro e wz ⟨rfl, hBz⟩
    dsimp only
    go_wp2_with fail
    go_ret
    exact ⟨rfl, up (up HB.out B1.out) hBz⟩
  | true =>
  obtain ⟨hc, hsm, hpk⟩ := pileB_ok hf
  have hn := (cfg_ok hc).1.n
  have HN : Hid (g.n.toNat ≤ 12) := by show _ ≤ _; omega
  have HC := hid hc
  have HSM := hid hsm
  have HPK := hid (picks_law (ps := ps) hc hpk)
  have HST := hid (fun W' (h : Below W1.heap.size W1 W') => p_Stabilize g _ q ds _ W' (hG.out.below h) (hD.out.below h))
  have HRN := hid (fun W' (h : Below W1.heap.size W1 W') => q_Run g _ q ds _ W' (hG.out.below h) (hD.out.below h))
  have HSE := hid (fun W' (h : Below W1.heap.size W1 W') => p_Settle g _ q ds _ ps _ W' (hG.out.below h) (hD.out.below h) (hP.out.below h))
  have HDR := hid (fun W' (h : Below W1.heap.size W1 W') => p_Drift g _ q ds _ ps _ W' (hG.out.below h) (hD.out.below h) (hP.out.below h))
  obtain ⟨⟨c0, c1⟩, ⟨d0, d1, d2, d3⟩, lg, lx⟩ := HCC.out w1 B1.out
  clear hf hc hsm hpk hn
  dsimp only
  go_wp2_with fail
  refine (HST.out w1 B1.out).mono ?_
  rintro e w2 hr
  obtain ⟨hB2, ht⟩ := tri_out HN.out hr
  clear hr HST
  have B2 := hid (up B1.out hB2)
  clear hB2 c0 c1 d0 d1 d2 d3 lg lx
  rcases stab_cases HC.out HSM.out with ⟨hst, _⟩ | ⟨r, hst, hbal, hstz, hleast, hsum⟩
  · rw [hst] at ht HPK
    dsimp only [TriP] at ht HPK
    have hse := HPK.out
    subst ht
    have HS := hid hst
    obtain ⟨⟨c0, c1⟩, ⟨d0, d1, d2, d3⟩, lg, lx⟩ := HCC.out w2 B2.out
    clear HPK hst
    dsimp only
    go_wp2_with fail
    refine (HRN.out w2 B2.out).mono ?_
    rintro e w3 hr
    obtain ⟨hB3, ⟨_, rfl⟩ | ⟨r, va, vs, R, h1, _⟩⟩ := run_out HC.out HSM.out hr
    case inr => rw [HS.out] at h1; cases h1
    have B3 := hid (up B2.out hB3)
    clear hB3 c0 c1 d0 d1 d2 d3 lg lx hr
    obtain ⟨⟨c0, c1⟩, ⟨d0, d1, d2, d3⟩, lg, lx⟩ := HCC.out w3 B3.out
    rw [hse] at HSE
    clear hse
    dsimp only
    go_wp2_with fail
    refine (HSE.out w3 B3.out).mono ?_
    rintro e w4 hr
    obtain ⟨hB4, rfl⟩ := tri_out HN.out hr
    have B4 := hid (up B3.out hB4)
    clear hB4 c0 c1 d0 d1 d2 d3 lg lx hr
    dsimp only
    go_wp2_with fail
    refine (hCP.out _).mono ?_
    rintro e wz ⟨rfl, hBz⟩
    dsimp only
    go_wp2_with fail
    go_ret
    exact ⟨rfl, up (up HB.out B4.out) hBz⟩
  · have HO : Hid (Odo g q ds r) := ⟨HC.out, hbal, hstz, hleast, hsum⟩
    have HS := hid hst
    rw [hst] at ht HPK
    dsimp only [TriP] at ht HPK
    obtain ⟨va, vs, rfl, hIa, hIs⟩ := ht
    have HIA := hid hIa
    have HIS := hid hIs
    have HPK1 := hid HPK.out.1
    have HPK2 := hid HPK.out.2
    obtain ⟨⟨c0, c1⟩, ⟨d0, d1, d2, d3⟩, lg, lx⟩ := HCC.out w2 B2.out
    clear HPK hst hbal hstz hleast hsum hIa hIs
    dsimp only
    go_wp2_with fail
    refine (HRN.out w2 B2.out).mono ?_
    rintro e w3 hr
    obtain ⟨hB3, ⟨h1, _⟩ | ⟨r', vb, vt, R, h1, rfl, hIb, hIt⟩⟩ := run_out HC.out HSM.out hr
    case inl => rw [HS.out] at h1; cases h1
    rw [HS.out] at h1
    cases h1
    have B3 := hid (up B2.out hB3)
    have HIA3 := hid (HIA.out.below hB3)
    have HIS3 := hid (HIS.out.below hB3)
    have HIB := hid hIb
    have HIT := hid hIt
    clear hB3 c0 c1 d0 d1 d2 d3 lg lx hr hIb hIt HIA HIS
    obtain ⟨⟨c0, c1⟩, ⟨d0, d1, d2, d3⟩, lg, lx⟩ := HCC.out w3 B3.out
    dsimp only
    go_wp2_with fail
    refine (HSE.out w3 B3.out).mono ?_
    rintro e w4 hr
    obtain ⟨s, hs, e1, e2⟩ := HPK1.out
    rw [hs] at hr
    obtain ⟨hB4, vc, vu, rfl, hIc, hIu⟩ := tri_out HN.out hr
    rw [e1] at hIc
    rw [e2] at hIu
    have B4 := hid (up B3.out hB4)
    have HIA4 := hid (HIA3.out.below hB4)
    have HIS4 := hid (HIS3.out.below hB4)
    have HIB4 := hid (HIB.out.below hB4)
    have HIT4 := hid (HIT.out.below hB4)
    have HIC := hid hIc
    have HIU := hid hIu
    clear hB4 c0 c1 d0 d1 d2 d3 lg lx hr hs e1 e2 hIc hIu HIA3 HIS3 HIB HIT HPK1 HSE HRN
    have hlL := vecOf_len g.n.toNat r.L
    have hlT := vecOf_len g.n.toNat r.T
    have HLL : Hid ((vecOf g.n.toNat r.L).length ≤ 1000000000 ∧ (vecOf g.n.toNat r.T).length ≤ 1000000000) := by have := HN.out; rw [hlL, hlT]; show _ ∧ _; omega
    clear hlL hlT
    obtain ⟨⟨c0, c1⟩, ⟨d0, d1, d2, d3⟩, lg, lx⟩ := HCC.out w4 B4.out
    dsimp only
    go_wp2_with fail
    refine (r19_Same_eq _ _ _ _ _ _ w4 HIA4.out HIB4.out HIS4.out HIT4.out HLL.out.1 HLL.out.2).mono ?_
    rintro e w5 ⟨rfl, hB5⟩
    have B5 := hid (up B4.out hB5)
    have HIA5 := hid (HIA4.out.below hB5)
    have HIS5 := hid (HIS4.out.below hB5)
    have HIC5 := hid (HIC.out.below hB5)
    have HIU5 := hid (HIU.out.below hB5)
    clear hB5 c0 c1 d0 d1 d2 d3 lg lx HIA4 HIS4 HIB4 HIT4 HIC HIU
    obtain ⟨⟨c0, c1⟩, ⟨d0, d1, d2, d3⟩, lg, lx⟩ := HCC.out w5 B5.out
    dsimp only
    go_wp2_with fail
    refine (r19_Same_eq _ _ _ _ _ _ w5 HIA5.out HIC5.out HIS5.out HIU5.out HLL.out.1 HLL.out.2).mono ?_
    rintro e w6 ⟨rfl, hB6⟩
    have B6 := hid (up B5.out hB6)
    have HIA6 := hid (HIA5.out.below hB6)
    have HIS6 := hid (HIS5.out.below hB6)
    clear hB6 c0 c1 d0 d1 d2 d3 lg lx HIA5 HIS5 HIC5 HIU5
    obtain ⟨⟨c0, c1⟩, ⟨d0, d1, d2, d3⟩, lg, lx⟩ := HCC.out w6 B6.out
    dsimp only
    go_wp2_with fail
    refine (b_Verify g _ q ds _ _ r w6 (hG.out.below B6.out) (hD.out.below B6.out) HIS6.out HO.out).mono ?_
    rintro e w7 ⟨rfl, hB7⟩
    have B7 := hid (up B6.out hB7)
    have HIA7 := hid (HIA6.out.below hB7)
    have HIS7 := hid (HIS6.out.below hB7)
    clear hB7 c0 c1 d0 d1 d2 d3 lg lx HIA6 HIS6
    obtain ⟨⟨c0, c1⟩, ⟨d0, d1, d2, d3⟩, lg, lx⟩ := HCC.out w7 B7.out
    dsimp only
    go_wp2_with fail
    refine (HDR.out w7 B7.out).mono ?_
    rintro e w8 hr
    obtain ⟨hB8, hq⟩ := quad_out HN.out hr
    have B8 := hid (up B7.out hB8)
    have HIA8 := hid (HIA7.out.below hB8)
    have HIS8 := hid (HIS7.out.below hB8)
    clear hB8 c0 c1 d0 d1 d2 d3 lg lx HIA7 HIS7 hr
    rcases HPK2.out with h12 | ⟨s, hs, e1, e2⟩
    · rw [h12] at hq
      dsimp only [QuadP] at hq
      subst hq
      clear h12
      dsimp only
      go_wp2_with fail
      refine (hCP.out _).mono ?_
      rintro e wz ⟨rfl, hBz⟩
      dsimp only
      go_wp2_with fail
      go_ret
      exact ⟨rfl, up (up HB.out B8.out) hBz⟩
    · rw [hs] at hq
      dsimp only [QuadP] at hq
      obtain ⟨vd, vv, rfl, hId, hIv⟩ := hq
      rw [e1] at hId
      rw [e2] at hIv
      have HID := hid hId
      have HIV := hid hIv
      clear hs e1 e2 hId hIv
      dsimp only
      go_wp2_with fail
      refine (r19_Same_eq _ _ _ _ _ _ w8 HIA8.out HID.out HIS8.out HIV.out HLL.out.1 HLL.out.2).mono ?_
      rintro e w9 ⟨rfl, hB9⟩
      have B9 := hid (up B8.out hB9)
      clear hB9
      dsimp only
      go_wp2_with fail
      refine (hCP.out _).mono ?_
      rintro e wz ⟨rfl, hBz⟩
      dsimp only
      go_wp2_with fail
      go_ret
      exact ⟨rfl, up (up HB.out B9.out) hBz⟩

end Go.Proofs.YtbjoblkigbphhaaGreat
