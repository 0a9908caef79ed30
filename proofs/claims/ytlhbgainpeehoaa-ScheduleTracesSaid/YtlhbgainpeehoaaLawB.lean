/-
  Law side: small; settling by any picks is stabilizing (plain).
-/
import Derived.Test.YtlhbgainpeehoaaLawS
import Derived.Test.YtlhbgainpeehoaaP36
namespace Go.Proofs.Ytlhbgainpeehoaa
open Go.RowKit

def smallL (g : G) (q : Int) (ds : List Int) (l : List (Int × Int)) (ps : List Int) : Bool := few18 g ds && (cfgErr g q ds == 0) && small17 ds && (fewB l.length && fewB ps.length)
set_option maxRecDepth 100000 in
set_option maxHeartbeats 4000000 in
theorem l_small (g : G) (gv : Value) (ds : List Int) (dv : Value) (q : Int) (l : List (Int × Int)) (lv : Value) (ps : List Int) (pv : Value) (w : World) (hg : GrR w gv g) (hd : IntsR w dv ds) (hl : PairsR w lv l) (hp : IntsR w pv ps) :
    Calls Try.prog 29 #[gv, dv, .agg #[.int .i64 q, lv, pv]] w fun e w' => e = .returned (.bool (smallL g q ds l ps)) ∧ Below w.heap.size w w' := by
  have hg' := hg
  have hl' := hl
  have hp' := hp
  obtain ⟨ev, rfl, a, cap, rfl, hcap, hcm, hlen, hc⟩ := hg'
  obtain ⟨la, lc, rfl, _⟩ := hl'
  obtain ⟨pa, pc, rfl, _⟩ := hp'
  obtain ⟨W1, hW1⟩ : ∃ W : World, W = (w.alloc (.cells #[.int .i64 g.n, .slice a g.es.length cap] 24)).alloc (.cells #[.int .i64 q, .slice la l.length lc, .slice pa ps.length pc] 29) := ⟨_, rfl⟩
  have hB : Below w.heap.size w W1 := by rw [hW1]; exact ((Below.refl _ _).alloc (Nat.le_refl _) _).alloc (by simp) _
  have bG : Hid (Blk W1 w.heap.size #[.int .i64 g.n, .slice a g.es.length cap] 24) := by rw [hW1]; exact (Blk.new _ _ _).alloc _
  have bX' : Blk W1 (w.heap.size + 1) #[.int .i64 q, .slice la l.length lc, .slice pa ps.length pc] 29 := by rw [hW1]; have := Blk.new (w.alloc (.cells #[.int .i64 g.n, .slice a g.es.length cap] 24)) #[.int .i64 q, .slice la l.length lc, .slice pa ps.length pc] 29; simpa using this
  have bX := hid bX'
  clear bX'
  have hG := hid (hg.below hB)
  have hD := hid (hd.below hB)
  have hL := hid (hl.below hB)
  have hP := hid (hp.below hB)
  have HB := hid hB
  have c0 := bG.out.cell 0
  have c1 := bG.out.cell 1
  generalize hz : smallL g q ds l ps = z
  have HZ := hid hz
  clear hg hd hl hp hB hz
  go_enter Try.func29, Try.ntmps29
  go_wp2_with fail
  rw [← hW1]
  clear hW1
  refine (r18_Few g _ ds _ _ hG.out hD.out).mono ?_
  rintro e w1 ⟨rfl, hB1⟩
  have B1 := hid hB1
  have x0 := (bX.out.below hB1).cell 0
  have y0 := (bG.out.below hB1).cell 0
  have y1 := (bG.out.below hB1).cell 1
  clear hB1 c0 c1
  cases hf : few18 g ds with
  | false =>
    have hzf : Hid (z = false) := by show _ = _; rw [← HZ.out]; unfold smallL; rw [hf]; rfl
    clear HZ
    go_simp
    go_wp2_with fail
    go_ret
    exact ⟨by rw [hzf.out]; rfl, up HB.out B1.out⟩
  | true =>
  go_simp
  go_wp2_with fail
  refine (r19_Check g _ q ds _ _ (hG.out.below B1.out) (hD.out.below B1.out)).mono ?_
  rintro e w2 ⟨rfl, hB2⟩
  have B2 := hid (up B1.out hB2)
  clear hB2 x0 y0 y1 B1
  cases hq : (cfgErr g q ds == 0) with
  | false =>
    have hzf : Hid (z = false) := by show _ = _; rw [← HZ.out]; unfold smallL; rw [hf, hq]; rfl
    clear HZ
    generalize cfgErr g q ds = cc at hq
    go_simp
    go_wp2_with fail
    go_ret
    exact ⟨by rw [hzf.out]; rfl, up HB.out B2.out⟩
  | true =>
  have hcc := hid hq
  generalize cfgErr g q ds = cc at hq
  go_simp
  go_wp2_with fail
  refine (r17_Small ds _ _ (hD.out.below B2.out)).mono ?_
  rintro e w3 ⟨rfl, rfl⟩
  have u0 := (bX.out.below B2.out).cell 0
  have u1 := (bX.out.below B2.out).cell 1
  have u2 := (bX.out.below B2.out).cell 2
  cases hs : small17 ds with
  | false =>
    have hzf : Hid (z = false) := by show _ = _; rw [← HZ.out]; unfold smallL; rw [hf, hcc.out, hs]; rfl
    clear HZ
    go_simp
    go_wp2_with fail
    go_ret
    exact ⟨by rw [hzf.out]; rfl, up HB.out B2.out⟩
  | true =>
  have hzf : Hid (z = (fewB l.length && fewB ps.length)) := by show _ = _; rw [← HZ.out]; unfold smallL; rw [hf, hcc.out, hs]; rfl
  clear HZ
  go_simp
  go_wp2_with fail
  refine (l_few q l _ ps _ _ (hL.out.below B2.out) (hP.out.below B2.out)).mono ?_
  rintro e w4 ⟨rfl, hB4⟩
  have B4 := hid (up B2.out hB4)
  clear hB4 u0 u1 u2 B2
  generalize (fewB l.length && fewB ps.length) = yy at *
  go_simp
  go_wp2_with fail
  go_ret
  exact ⟨by rw [hzf.out]; rfl, up HB.out B4.out⟩

/-- Settling by any picks ends as stabilizing does. -/
theorem settle_is_stab {g : G} {q : Int} {ds ps : List Int} (hc : cfgErr g q ds = 0) (hp : pkErr ps = 0) :
    triL g.n.toNat (settleR g q ds ps) = triL g.n.toNat (stabR g q ds) ∧ triT g.n.toNat (settleR g q ds ps) = triT g.n.toNat (stabR g q ds) ∧ triK (settleR g q ds ps) = triK (stabR g q ds) := by
  obtain ⟨hk, hq0, hqn, hdl, _, _⟩ := cfg_ok hc
  have hn := hk.n
  obtain ⟨Q, rfl⟩ := Int.eq_ofNat_of_zero_le hq0
  have hgv : givErr g Q ds ps = 0 := by unfold givErr; simp [hc, hp]
  rw [settleR_eq hgv]
  have h := settle_stab hk (Q : Int) g.n.toNat (dOf ds) ps (pk_ok hp).2.2 (fun v hv hne => val_pos hk (cfg_con hc) (q := Q) (by omega) hv (by omega))
  unfold stabR
  rw [if_neg (by simpa using hc)]
  cases e1 : sGo g Q g.n.toNat ps maxF 0 ⟨dOf ds, fun _ => 0⟩ with
  | none =>
    cases e2 : stGo g Q g.n.toNat (maxF + 1) 0 ⟨dOf ds, fun _ => 0⟩ with
    | none => exact ⟨rfl, rfl, rfl⟩
    | some r => rw [e1, e2] at h; exact h.elim
  | some s =>
    cases e2 : stGo g Q g.n.toNat (maxF + 1) 0 ⟨dOf ds, fun _ => 0⟩ with
    | none => rw [e1, e2] at h; exact h.elim
    | some r =>
      rw [e1, e2] at h
      dsimp only at h ⊢
      rw [Int.toNat_natCast, ← h.1 Q (by omega)]
      by_cases hx : 1048576 < s.L Q
      · rw [if_pos hx, if_pos hx]; exact ⟨rfl, rfl, rfl⟩
      · rw [if_neg hx, if_neg hx]
        exact ⟨vecOf_congr _ _ _ h.1, vecOf_congr _ _ _ h.2, rfl⟩

end Go.Proofs.Ytlhbgainpeehoaa
