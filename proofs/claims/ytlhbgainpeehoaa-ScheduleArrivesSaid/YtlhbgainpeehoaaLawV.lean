/-
  ScheduleArrives: for every graph, every divisor and every plan the law returns true, and its arguments read as before. No conditions beyond the row's own.
-/
import Derived.Test.YtlhbgainpeehoaaLawB
import Derived.Test.YtlhbgainpeehoaaAb2
namespace Go.Proofs.Ytlhbgainpeehoaa
open Go.RowKit

def qdL (N : Nat) : Int ⊕ Dr → List Int
  | .inl _ => []
  | .inr s => vecOf N s.L
def qdT (N : Nat) : Int ⊕ Dr → List Int
  | .inl _ => []
  | .inr s => vecOf N s.T
def qdM : Int ⊕ Dr → Int
  | .inl _ => 0
  | .inr s => s.most
def qdK : Int ⊕ Dr → Int
  | .inl k => k
  | .inr _ => 0
theorem qd_ints {w w1 : World} {N : Nat} {r : Int ⊕ Dr} {e : Ending} (hN : ∀ s, r = .inr s → N ≤ 1000000) (hr : RetQuad 3 w N r e w1) :
    Below w.heap.size w w1 ∧ ∃ va vs, e = .returned (.tuple #[va, vs, .int .i64 (qdM r), .int .i64 (qdK r)]) ∧ IntsR w1 va (qdL N r) ∧ IntsR w1 vs (qdT N r) := by
  cases r with
  | inl k => obtain ⟨hB, rfl⟩ := hr; exact ⟨hB, _, _, rfl, ints_nil _, ints_nil _⟩
  | inr s =>
    obtain ⟨hB, b1, c1, b2, c2, he, h1, h2⟩ := hr
    exact ⟨hB, _, _, he, owns_intsN h1 (vecOf_len _ _) (hN s rfl), owns_intsN h2 (vecOf_len _ _) (hN s rfl)⟩
theorem driftp_small {g : G} {q : Int} {ds picks : List Int} (s : Dr) (h : driftP g q ds picks = .inr s) : g.n.toNat ≤ 1000000 := by
  by_cases hg : givErr g q ds picks = 0
  · have hc : checkErr g = 0 := (cfg_ok (giv_ok hg).1).1
    unfold checkErr at hc
    split at hc <;> omega
  · unfold driftP at h; rw [if_pos hg] at h; cases h
theorem stabv_small {g : G} {q : Int} {ds : List Int} (s : St) (h : stabR g q ds = .inr s) : g.n.toNat ≤ 1000000 := by
  by_cases hg : cfgErr g q ds = 0
  · have hc : checkErr g = 0 := (cfg_ok hg).1
    unfold checkErr at hc
    split at hc <;> omega
  · unfold stabR at h; rw [if_pos hg] at h; cases h

/-- The greatest valence of those that fired, among the first k. -/
def mvTo (g : G) (t : List Int) : Nat → Int
  | 0 => 0
  | v + 1 => if 0 < t[v]?.getD 0 ∧ (v : Int) < g.n then max (mvTo g t v) (valence g v) else mvTo g t v
theorem mvTo_le (g : G) (t : List Int) (m : Int) (h0 : 0 ≤ m) (h : ∀ v : Nat, (v : Int) < g.n → 0 < t[v]?.getD 0 → valence g v ≤ m) : ∀ k, mvTo g t k ≤ m
  | 0 => h0
  | v + 1 => by
    have ih := mvTo_le g t m h0 h v
    unfold mvTo
    split
    · rename_i hh
      have := h v hh.2 hh.1
      omega
    · exact ih
theorem mvTo_bd {g : G} (hg : Gok g) (t : List Int) : ∀ k, 0 ≤ mvTo g t k ∧ mvTo g t k ≤ 600
  | 0 => by unfold mvTo; omega
  | v + 1 => by
    have ih := mvTo_bd hg t v
    have hv := val_bd hg v
    unfold mvTo
    split <;> omega

theorem dr_most {g : G} (q : Int) (N : Nat) (picks : List Int) : ∀ f i s r, 0 ≤ s.most → drGo g q N picks f i s = some r → 0 ≤ r.most
  | 0, i, s, r, h0, h => by
    unfold drGo chGo at h
    split at h
    · obtain rfl := Option.some.inj h; exact h0
    · cases h
  | f + 1, i, s, r, h0, h => by
    unfold drGo chGo at h
    split at h
    · obtain rfl := Option.some.inj h; exact h0
    · refine dr_most q N picks f (i + 1) _ r ?_ h
      unfold dNxt
      split
      · exact h0
      · show 0 ≤ max s.most _
        omega

/-- Drifting arrives where stabilizing does, if both end in time; and what fired was on its way. -/
theorem drift_is_stab {g : G} {q : Int} {ds ps : List Int} (hc : cfgErr g q ds = 0) (hp : pkErr ps = 0) (h1 : qdK (driftP g q ds ps) ≠ 12) (h2 : triK (stabR g q ds) ≠ 12) :
    qdL g.n.toNat (driftP g q ds ps) = triL g.n.toNat (stabR g q ds) ∧ qdT g.n.toNat (driftP g q ds ps) = triT g.n.toNat (stabR g q ds) ∧ qdK (driftP g q ds ps) = triK (stabR g q ds) ∧
      mvTo g (triT g.n.toNat (stabR g q ds)) (triT g.n.toNat (stabR g q ds)).length ≤ qdM (driftP g q ds ps) := by
  obtain ⟨hk, hq0, hqn, hdl, hdb, _⟩ := cfg_ok hc
  have hn := hk.n
  obtain ⟨Q, rfl⟩ := Int.eq_ofNat_of_zero_le hq0
  have hgv : givErr g Q ds ps = 0 := by unfold givErr; simp [hc, hp]
  have z : sumTo (fun _ => (0 : Int)) g.n.toNat = 0 := by
    have h1 : sumTo (fun _ => (0 : Int)) g.n.toNat = sumTo (fun w => if w = g.n.toNat then (0 : Int) else 0) g.n.toNat := sumTo_congr _ _ _ fun k _ => by simp
    rw [h1, sumTo_one]; simp
  have ok0 : okD g.n.toNat 0 ⟨dOf ds, fun _ => 0, [], 0⟩ := by
    refine ⟨fun u hu => ?_, fun u hu => by dsimp only; omega, Nat.zero_le _, fun v hv => (by cases hv), Int.le_refl _, by dsimp only; omega⟩
    have hu' : u < ds.length := by omega
    have := hdb _ (List.getElem_mem hu')
    show _ ≤ dOf ds u ∧ dOf ds u ≤ _
    unfold dOf
    rw [List.getElem?_eq_getElem hu']
    simp only [Option.getD_some]
    omega
  unfold driftP at h1 ⊢
  rw [if_neg (by simpa using hgv)] at h1 ⊢
  unfold stabR at h2 ⊢
  rw [if_neg (by simpa using hc)] at h2 ⊢
  have hst := stGo_least hk (Q : Int) g.n.toNat (dOf ds) (fun v hv hne => val_pos hk (cfg_con hc) (q := Q) (by omega) hv (by omega)) (maxF + 1) 0 ⟨dOf ds, fun _ => 0⟩ (bal_start g _ _) (fun τ ht u hu => ht.2 u hu) z.symm (by omega) (by omega)
  cases e1 : drGo g Q g.n.toNat ps maxF 0 ⟨dOf ds, fun _ => 0, [], 0⟩ with
  | none => rw [e1] at h1; exact absurd rfl h1
  | some r =>
    cases e2 : stGo g Q g.n.toNat (maxF + 1) 0 ⟨dOf ds, fun _ => 0⟩ with
    | none => rw [e2] at h2; exact absurd rfl h2
    | some s =>
      rw [e2] at hst
      obtain ⟨s1, s2, s3, _⟩ := hst
      obtain ⟨r1, r2, r3, r4⟩ := drGo_least hk (Q : Int) g.n.toNat rfl (by omega) (dOf ds) ps maxF 0 0 _ (balD_start g _ _) ok0 (fun τ ht u hu => ht.2 u hu) r e1
      have hm := dr_most (Q : Int) g.n.toNat ps maxF 0 _ r (Int.le_refl _) e1
      have hT : ∀ u, u < g.n.toNat → r.T u = s.T u := fun u hu => Int.le_antisymm (r4 _ s2 u hu) (s3 _ r3 u hu)
      have hL : ∀ u, u < g.n.toNat → r.L u = s.L u := bal_eq (s := ⟨r.L, r.T⟩) (r := s) ⟨r2, r1.nn⟩ s1 hT
      dsimp only
      rw [Int.toNat_natCast, ← hL Q (by omega)]
      by_cases hx : 1048576 < r.L Q
      · rw [if_pos hx, if_pos hx]; exact ⟨rfl, rfl, rfl, Int.le_refl _⟩
      · rw [if_neg hx, if_neg hx]
        refine ⟨vecOf_congr _ _ _ hL, vecOf_congr _ _ _ hT, rfl, mvTo_le _ _ _ hm (fun v hv hp => ?_) _⟩
        have hv' : v < g.n.toNat := by omega
        refine r1.most v hv' ?_
        rw [hT v hv']
        have e : (vecOf g.n.toNat s.T)[v]?.getD 0 = s.T v := vecOf_get _ _ _ hv'
        rw [← e]
        exact hp

set_option maxRecDepth 100000 in
set_option maxHeartbeats 4000000 in
theorem l_Arrives (g : G) (gv : Value) (ds : List Int) (dv : Value) (q : Int) (l : List (Int × Int)) (lv : Value) (ps : List Int) (pv : Value) (w : World) (hg : GrR w gv g) (hd : IntsR w dv ds) (hl : PairsR w lv l) (hp : IntsR w pv ps) :
    Calls Try.prog 8 #[gv, dv, .agg #[.int .i64 q, lv, pv]] w fun e w' => e = .returned (.bool true) ∧ Below w.heap.size w w' := by
  have hg' := hg
  have hl' := hl
  have hp' := hp
  obtain ⟨ev, rfl, a, cap, rfl, hcap, hcm, hlen, hc⟩ := hg'
  obtain ⟨la, lc, rfl, _⟩ := hl'
  obtain ⟨pa, pc, rfl, _⟩ := hp'
  obtain ⟨W1, hW1⟩ : ∃ W : World, W = (w.alloc (.cells #[.int .i64 g.n, .slice a g.es.length cap] 24)).alloc (.cells #[.int .i64 q, .slice la l.length lc, .slice pa ps.length pc] 29) := ⟨_, rfl⟩
  have hB : Below w.heap.size w W1 := by rw [hW1]; exact ((Below.refl _ _).alloc (Nat.le_refl _) _).alloc (by simp) _
  have bG : Hid (Blk W1 w.heap.size #[.int .i64 g.n, .slice a g.es.length cap] 24) := by rw [hW1]; exact (Blk.new _ _ _).alloc _
  have bX' : Blk W1 (w.heap.size + 1) #[.int .i64 q, .slice la l.length lc, .slice pa ps.length pc] 29 := by rw [hW1]; have := Blk.new (w.alloc (.cells #[.int .i64 g.n, .slice a g.es.length cap] 24)) #[.int .i64 q, .slice la l.length lc, .slice pa ps.length pc] 29; simpa using this
  have bX := hid bX'
  clear bX'
  have hG := hid (hg.below hB)
  have hD := hid (hd.below hB)
  have hL := hid (hl.below hB)
  have hP := hid (hp.below hB)
  have HB := hid hB
  have c0 := bG.out.cell 0
  have c1 := bG.out.cell 1
  have c2 := bX.out.cell 0
  have c3 := bX.out.cell 1
  have c4 := bX.out.cell 2
  have hsm := hid (fun s h => driftp_small (g := g) (q := q) (ds := ds) (picks := ps) s h)
  have hsb := hid (fun s h => stabv_small (g := g) (q := q) (ds := ds) s h)
  clear hg hd hl hp hB
  go_enter Try.func8, Try.ntmps8
  go_wp2_with fail
  rw [← hW1]
  clear hW1
  refine (l_small g _ ds _ q l _ ps _ _ hG.out hD.out hL.out hP.out).mono ?_
  rintro e w1 ⟨rfl, hB1⟩
  have B1 := hid hB1
  have x2 := (bX.out.below hB1).cell 2
  clear hB1 c0 c1 c2 c3 c4
  cases hf : smallL g q ds l ps with
  | false =>
    go_simp
    go_wp2_with fail
    refine (l_awake _).mono ?_
    rintro e w2 ⟨rfl, hB2⟩
    go_simp
    go_wp2_with fail
    go_ret
    exact ⟨rfl, up (up HB.out B1.out) hB2⟩
  | true =>
  have hcf : cfgErr g q ds = 0 := by
    unfold smallL at hf
    simp only [Bool.and_eq_true, beq_iff_eq] at hf
    exact hf.1.1.2
  have HCF := hid hcf
  clear hf hcf
  go_simp
  go_wp2_with fail
  refine (r21_Picks ps _ _ (hP.out.below B1.out)).mono ?_
  rintro e w2 ⟨rfl, rfl⟩
  by_cases hpk : pkErr ps = 0
  case neg =>
    have hb : (pkErr ps != 0) = true := by simpa using hpk
    clear hpk
    generalize pkErr ps = zz at *
    go_simp
    go_wp2_with fail
    refine (l_awake _).mono ?_
    rintro e w2 ⟨rfl, hB2⟩
    go_simp
    go_wp2_with fail
    go_ret
    exact ⟨rfl, up (up HB.out B1.out) hB2⟩
  have HST := hid (fun h1 h2 => drift_is_stab HCF.out hpk h1 h2)
  have HGK := hid (cfg_ok HCF.out).1
  rw [hpk]
  have y0 := (bG.out.below B1.out).cell 0
  have y1 := (bG.out.below B1.out).cell 1
  have z0 := (bX.out.below B1.out).cell 0
  clear hpk
  go_simp
  go_wp2_with fail
  refine (p_Drift g _ q ds _ ps _ _ (hG.out.below B1.out) (hD.out.below B1.out) (hP.out.below B1.out)).mono ?_
  rintro e w3 hr
  obtain ⟨hB3, va, vs, rfl, ia, is⟩ := qd_ints hsm.out hr
  have k3 := up B1.out hB3
  have B3 := hid k3
  have Ia := hid ia
  have Is := hid is
  have u0 := (bG.out.below k3).cell 0
  have u1 := (bG.out.below k3).cell 1
  have v0 := (bX.out.below k3).cell 0
  clear hr hB3 k3 ia is y0 y1 z0 x2 B1
  go_simp
  go_wp2_with fail
  refine (p_Stabilize g _ q ds _ _ (hG.out.below B3.out) (hD.out.below B3.out)).mono ?_
  rintro e w4 hr
  obtain ⟨hB4, vb, vt, rfl, ib, it⟩ := tri_ints hsb.out hr
  have Ja := hid (Ia.out.below hB4)
  have Js := hid (Is.out.below hB4)
  have k4 := up B3.out hB4
  have B4 := hid k4
  have t0 := (bG.out.below k4).cell 0
  have Jb := hid ib
  have Jt := hid it
  have hLl := hid (triL_len hsb.out)
  have hTl := hid (triT_len hsb.out)
  clear hr hB4 ib it Ia Is u0 u1 v0 k4
  by_cases hk1 : qdK (driftP g q ds ps) = 12
  · have hb1 : (qdK (driftP g q ds ps) == 12) = true := by rw [hk1]; rfl
    clear HST hk1 t0
    generalize qdK (driftP g q ds ps) = kk at *
    generalize qdM (driftP g q ds ps) = mm at *
    generalize triK (stabR g q ds) = kt at *
    go_simp
    go_wp2_with fail
    refine (l_awake _).mono ?_
    rintro e w6 ⟨rfl, hB6⟩
    go_simp
    go_wp2_with fail
    go_ret
    exact ⟨rfl, up (up HB.out B4.out) hB6⟩
  by_cases hk2 : triK (stabR g q ds) = 12
  · have hb1 : (qdK (driftP g q ds ps) == 12) = false := by rw [beq_eq_false_iff_ne]; exact hk1
    have hb2 : (triK (stabR g q ds) == 12) = true := by rw [hk2]; rfl
    clear HST hk1 hk2 t0
    generalize qdK (driftP g q ds ps) = kk at *
    generalize qdM (driftP g q ds ps) = mm at *
    generalize triK (stabR g q ds) = kt at *
    go_simp
    go_wp2_with fail
    refine (l_awake _).mono ?_
    rintro e w6 ⟨rfl, hB6⟩
    go_simp
    go_wp2_with fail
    go_ret
    exact ⟨rfl, up (up HB.out B4.out) hB6⟩
  have hb1 : (qdK (driftP g q ds ps) == 12) = false := by rw [beq_eq_false_iff_ne]; exact hk1
  have hb2 : (triK (stabR g q ds) == 12) = false := by rw [beq_eq_false_iff_ne]; exact hk2
  obtain ⟨e1, e2, e3, e4⟩ := HST.out hk1 hk2
  have HM := hid e4
  rw [e1] at Ja
  rw [e2] at Js
  rw [e3] at hb1
  rw [e3]
  clear HST hk1 hk2 e1 e2 e3 e4 hb1
  generalize triL g.n.toNat (stabR g q ds) = L at *
  generalize triT g.n.toNat (stabR g q ds) = T at *
  generalize triK (stabR g q ds) = kk at *
  generalize qdM (driftP g q ds ps) = mm at *
  obtain ⟨W4, rfl⟩ : ∃ W : World, W = w4 := ⟨_, rfl⟩
  have hjt := Jt.out
  obtain ⟨ta, tc, rfl, _, _, _, hct⟩ := hjt
  have HCT := hid hct
  have HBd := hid (fun k => mvTo_bd HGK.out T k)
  have HG4 := hid (fun (wr : World) (h : Below W4.heap.size W4 wr) => hG.out.below (up B4.out h))
  have HT0 := hid (fun (wr : World) (h : Below W4.heap.size W4 wr) => show wr.cell? ⟨w.heap.size, 0, none⟩ = some (.int .i64 g.n) ∧ wr.cell? ⟨w.heap.size, 1, none⟩ = some (.slice a g.es.length cap) from ⟨(bG.out.below (up B4.out h)).cell 0, (bG.out.below (up B4.out h)).cell 1⟩)
  clear hct t0
  go_simp
  go_wp2
  go_loopw [14, 58] (fun m i wr => ∃ k : Nat, k ≤ T.length ∧ i = .int .i64 k ∧ m = .int .i64 (mvTo g T k) ∧ Hid (Below W4.heap.size W4 wr)) (fun _ i _ => T.length - (intOf i).toNat)
  case atStart => exact ⟨0, Nat.zero_le _, rfl, rfl, Below.refl _ _⟩
  case round =>
    obtain ⟨k, hk, rfl, rfl, HBr⟩ := hrel
    obtain ⟨Wr, rfl⟩ : ∃ W : World, W = wr := ⟨_, rfl⟩
    obtain ⟨t0, t1⟩ := HT0.out Wr HBr.out
    by_cases hlt : k < T.length
    · obtain ⟨b', off', rfl, hb', hcs⟩ := (HCT.out.below HBr.out).int (by omega)
      have c1 := hcs k hlt
      have hlt' : (k : Int) < (T.length : Int) := by omega
      have hk0 : (0 : Int) ≤ (k : Int) := by omega
      have HMS : Hid (mvTo g T (k + 1) = if 0 < T[k]?.getD 0 ∧ (k : Int) < g.n then max (mvTo g T k) (valence g k) else mvTo g T k) := rfl
      have wk : IntKind.i64.wrap ((k : Int) + 1) = (k : Int) + 1 := IntWalk.i64_in _ (by have := hTl.out; omega)
      clear hcs
      generalize T[k]?.getD 0 = x at *
      by_cases hx : 0 < x
      · by_cases hn : (k : Int) < g.n
        · have HM2 : Hid (mvTo g T (k + 1) = max (mvTo g T k) (valence g k)) := by show _ = _; rw [HMS.out, if_pos ⟨hx, hn⟩]
          have hvl := hid (r08_Valence g _ k Wr (HG4.out Wr HBr.out) HGK.out)
          clear HMS
          generalize mvTo g T k = mk at *
          generalize valence g k = vk at *
          go_wp2_with fail
          refine hvl.out.mono ?_
          rintro e W5 ⟨rfl, hB5⟩
          have HB5 := hid (HBr.out.trans (hB5.mono HBr.out.size))
          clear hB5 hvl
          go_simp
          go_wp2_with fail
          go_roundw
          case rel => exact ⟨k + 1, by omega, by go_num, by rw [HM2.out], HB5⟩
          case measure => simp [intOf]; omega
        · have HM2 : Hid (mvTo g T (k + 1) = mvTo g T k) := by show _ = _; rw [HMS.out, if_neg (fun h => hn h.2)]
          clear HMS
          generalize mvTo g T k = mk at *
          go_wp2_with fail
          go_roundw
          case rel => exact ⟨k + 1, by omega, by go_num, by rw [HM2.out], HBr⟩
          case measure => simp [intOf]; omega
      · have HM2 : Hid (mvTo g T (k + 1) = mvTo g T k) := by show _ = _; rw [HMS.out, if_neg (fun h => hx h.1)]
        clear HMS
        generalize mvTo g T k = mk at *
        go_wp2_with fail
        go_roundw
        case rel => exact ⟨k + 1, by omega, by go_num, by rw [HM2.out], HBr⟩
        case measure => simp [intOf]; omega
    · have e : k = T.length := by omega
      subst e
      have hlt' : ¬ (T.length : Int) < (T.length : Int) := by omega
      have hge := HM.out
      have hkk : (kk == kk) = true := by simp
      have hJt : Hid (IntsR W4 (.slice ta T.length tc) T) := Jt.out
      clear HM t0 t1
      generalize mvTo g T T.length = mv at *
      go_wp2_with fail
      refine (r19_Same_eq L T _ _ _ _ _ (Ja.out.below HBr.out) (Jb.out.below HBr.out) (Js.out.below HBr.out) (hJt.out.below HBr.out) hLl.out hTl.out).mono ?_
      rintro e w5 ⟨rfl, hB5⟩
      have B5 := hid (up (up B4.out HBr.out) hB5)
      clear hB5
      go_simp
      go_wp2_with fail
      refine (l_awake _).mono ?_
      rintro e w6 ⟨rfl, hB6⟩
      go_simp
      go_wp2_with fail
      go_ret
      exact ⟨rfl, up (up HB.out B5.out) hB6⟩

end Go.Proofs.Ytlhbgainpeehoaa

namespace Go.Proofs.Ytlhbgainpeehoaa.ScheduleArrivesLaw
open Go.ChangeShapes Go.WideShapes Go.ChangeAt Go.RowKit
set_option linter.unusedVariables false

set_option maxRecDepth 100000 in
theorem lifted (os : Os) (started : os.Started) (H : Type) (enc : TypeId × Value → H) :
    ReturnsInHanded {} Try.checked os 8 .any (Rows.scheduleArrivesSpec.pre6 enc Try.prog Try.f8 Rows.scheduleArrivesRow.domain false) (Rows.scheduleArrivesSpec.post enc Try.prog Try.f8 false true false false) := by
  refine returnsInHanded_of_change_sized (C := Try.checked) law_own started (by kernel_rfl) Try.func8
    (ChangeSpec.witness6 (enc := enc) (C := Try.checked) false ⟨#[], #[.agg #[.int .i64 0, .slice none 0 0], .slice none 0 0, .agg #[.int .i64 0, .slice none 0 0, .slice none 0 0]], []⟩ 8 (by kernel_rfl) (by kernel_rfl) (by kernel_rfl) (by kernel_rfl)) ?_
  intro W base args ds gs before hval0 hW hcnd hsz0 _
  have hsz : (DataW.weightsEach Try.prog (Try.f8.params.toList ++ Rows.scheduleArrivesSpec.plain.varTypes Try.prog) (ds ++ gs)).all (· ≤ reachBytes) = true := hsz0
  clear hsz0
  have hval : ∀ (j : Nat) t v, Try.f8.params[j]? = some t → args[j]? = some v → Value.okWide Try.prog W .any base t v := hval0
  have hW' := hW
  obtain ⟨p, q, hA0, hV, rfl, hfz, hnd⟩ := hW
  have hA : DataW.TrodAll enc Try.prog W 0 (fun _ => true) true Try.f8.params.toList args.toList ds p := hA0
  rw [Try.params8] at hA hval hsz
  obtain ⟨v0, v1, v2, d0, d1, d2, p0, p1, p2, rfl, rfl, rfl, h0, h1, h2⟩ := trodAll_three hA
  obtain ⟨rfl, rfl⟩ := trodVars_none hV
  have k0 := h0
  have k1 := h1
  have k2 := h2
  have lt0 : ∀ x ∈ p0, x.block < W.heap.size := by obtain ⟨m, hm⟩ := k0; exact DataW.trod_lt m _ _ _ hm
  have lt1 : ∀ x ∈ p1, x.block < W.heap.size := by obtain ⟨m, hm⟩ := k1; exact DataW.trod_lt m _ _ _ hm
  have lt2 : ∀ x ∈ p2, x.block < W.heap.size := by obtain ⟨m, hm⟩ := k2; exact DataW.trod_lt m _ _ _ hm
  obtain ⟨g, w0⟩ := reads_graph (hval 0 24 v0 rfl rfl) h0 (weigh hsz 0 _ _ rfl rfl)
  obtain ⟨a1, len1, cap1, rfl⟩ := okWide_slice und_Div (hval 1 26 v1 rfl rfl)
  obtain ⟨fuel, hf⟩ := h1
  obtain ⟨dl, w1⟩ := reads_ints und_Div (by simpa [Value.cells] using hf) (weigh hsz 1 _ _ rfl rfl)
  obtain ⟨qq, lv, pv, l, ps, rfl, w2, w3⟩ := reads_plan (hval 2 29 v2 rfl rfl) h2 (weigh hsz 2 _ _ rfl rfl)
  clear hA0 hval0
  refine (l_Arrives g v0 dl _ qq l lv ps pv W w0 w1 w2 w3).mono fun e W' ⟨he, bel⟩ => ?_
  subst he
  exact ⟨_, rfl, _, _, _, [], _, [], hW', trodAll_mk1 (shut_bool und_bool _), (trodAll_cons_mk (Below.trod law_laidOut (by kernel_rfl) (of_decide_eq_true (by kernel_rfl)) k0 bel lt0) (trodAll_cons_mk (Below.trod law_laidOut (by kernel_rfl) (of_decide_eq_true (by kernel_rfl)) k1 bel lt1) (trodAll_cons_mk (Below.trod law_laidOut (by kernel_rfl) (of_decide_eq_true (by kernel_rfl)) k2 bel lt2) trodAll_mk0))), rfl, bel.frame _, fun h => by cases h⟩

theorem over : Rows.scheduleArrivesRow.holds Try.pinned (OpenSpec.ofChange Rows.scheduleArrivesSpec) :=
  OpenClaim.holds_of_wide 8 Try.f8 rfl rfl rfl rfl rfl rfl rfl ⟨rfl, rfl, rfl, rfl, rfl⟩ rfl rfl rfl rfl rfl (by kernel_rfl) Try.func8 (by kernel_rfl)
    (of_decide_eq_true (by kernel_rfl)) (by unfold Func.isWrapper; first | (rw [if_pos (by decide +kernel)]; kernel_rfl) | (rw [if_neg (by decide +kernel)]; exact ⟨rfl, rfl⟩))
    (fun os started H enc _ => lifted os started H enc)

theorem proved : Rows.ScheduleArrivesSaid := over
#print axioms proved
end Go.Proofs.Ytlhbgainpeehoaa.ScheduleArrivesLaw
