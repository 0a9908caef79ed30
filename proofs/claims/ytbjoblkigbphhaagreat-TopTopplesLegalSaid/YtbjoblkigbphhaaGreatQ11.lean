/-
  Contract of the parallel game: Run. The law's examples: casePiles. Law side: casePile, Calm.
-/
import Derived.Test.YtbjoblkigbphhaaGreatQ8
import Derived.Test.YtbjoblkigbphhaaGreatP21
import Derived.Test.YtbjoblkigbphhaaGreatP20
import Derived.Test.YtbjoblkigbphhaaGreatR21e
namespace Go.Proofs.YtbjoblkigbphhaaGreat
set_option linter.unusedSimpArgs false
set_option linter.unusedVariables false
open Go.RowKit Go.Shelf

/-- A run of the game is handed back. -/
def RetRun (g : G) (q : Int) (ds : List Int) (w : World) (e : Ending) (w' : World) : Prop :=
  (cfgErr g q ds ≠ 0 ∧ Below w.heap.size w w' ∧ e = .returned (.tuple #[.slice none 0 0, .slice none 0 0, .int .i64 0, .int .i64 (cfgErr g q ds)])) ∨
  (cfgErr g q ds = 0 ∧ RetPl g q g.n.toNat ds w e w')
theorem RetPl.base {g : G} {q : Int} {N : Nat} {ds : List Int} {w w1 w' : World} {e : Ending} (hB : Below w.heap.size w w1) (h : RetPl g q N ds w1 e w') : RetPl g q N ds w e w' := by
  obtain ⟨h1, h2 | ⟨R, a1, a2, a3, a4 | ⟨a5, va, vs, a6, a7, a8⟩⟩⟩ := h
  · exact ⟨hB.trans (h1.mono hB.size), .inl h2⟩
  · exact ⟨hB.trans (h1.mono hB.size), .inr ⟨R, a1, a2, a3, .inl a4⟩⟩
  · exact ⟨hB.trans (h1.mono hB.size), .inr ⟨R, a1, a2, a3, .inr ⟨a5, va, vs, a6, owns_base a7 hB.size, owns_base a8 hB.size⟩⟩⟩
/-- Four results in a tuple. -/
theorem RetPl.tuple {g : G} {q : Int} {N : Nat} {ds : List Int} {w w' : World} {e : Ending} (h : RetPl g q N ds w e w') : ∃ v1 v2 v3 v4, e = .returned (.tuple #[v1, v2, v3, v4]) := by
  obtain ⟨h1, ⟨R, _, _, rfl⟩ | ⟨R, a1, a2, a3, ⟨_, rfl⟩ | ⟨a5, va, vs, rfl, a7, a8⟩⟩⟩ := h
  · exact ⟨_, _, _, _, rfl⟩
  · exact ⟨_, _, _, _, rfl⟩
  · exact ⟨_, _, _, _, rfl⟩
theorem results_tmp4 {fn : Func} {t u v x : Tmp} (h : fn.results = #[.tmp t, .tmp u, .tmp v, .tmp x]) (tmps : Array Value) (P : Program) (w : World) :
    (results fn tmps).run P w = .ok (.tuple #[tmps.getD t undef, tmps.getD u undef, tmps.getD v undef, tmps.getD x undef]) w := by
  simp [results, h]

set_option maxRecDepth 100000 in
set_option maxHeartbeats 4000000 in
theorem q_Run (g : G) (gv : Value) (q : Int) (ds : List Int) (dv : Value) (w : World) (hg : GrR w gv g) (hd : IntsR w dv ds) :
    Calls Tryz.prog 13 #[gv, .int .i64 q, dv] w (RetRun g q ds w) := by
  have hg' := hg
  obtain ⟨ev, rfl, a, cap, rfl, _⟩ := hg'
  have hd' := hd
  obtain ⟨da, dc, rfl, _⟩ := hd'
  have hW : Below w.heap.size w (w.alloc (.cells #[.int .i64 g.n, .slice a g.es.length cap] 24)) := by go_grown
  have hck := hid (p_stCheck g _ q ds _ _ (hg.below hW) (hd.below hW))
  by_cases hc : cfgErr g q ds = 0
  case neg =>
    have hb : (cfgErr g q ds != 0) = true := by simpa using hc
    have HC := hid hc
    have HR : Hid (∀ w', Below w.heap.size w w' → RetRun g q ds w (.returned (.tuple #[.slice none 0 0, .slice none 0 0, .int .i64 0, .int .i64 (cfgErr g q ds)])) w') := fun w' hB => .inl ⟨hc, hB, rfl⟩
    clear hc
    go_enter Tryz.func13, Tryz.ntmps13
    go_wp2_with fail
    refine hck.out.mono ?_
    rintro e w1 ⟨rfl, hB1⟩
    clear HC hck
    generalize cfgErr g q ds = z at *
    dsimp only
    go_wp2_with fail
    (try simp only [Exit.inBlock, Exit.then])
    refine bodyPost_ret (results_tmp4 rfl _ _ _) rfl ?_
    exact HR.out _ (up hW hB1)
  have HC := hid hc
  rw [hc] at hck
  have hok := cfg_ok hc
  have HP := hid (fun (w1 : World) (gv' dv' : Value) (h1 : GrR w1 gv' g) (h2 : IntsR w1 dv' ds) => q_played g gv' q ds dv' g.n.toNat w1 h1 hok.1 h2 (by have := hok.1.n; omega) (by have := hok.1.n; omega) (by have := hok.2.2.2.1; omega) (fun u hu => by
    have hbd := hok.2.2.2.2.1
    unfold dOf
    by_cases hl : u < ds.length
    · rw [List.getElem?_eq_getElem hl, Option.getD_some]
      have := hbd _ (List.getElem_mem hl); omega
    · rw [List.getElem?_eq_none (by omega), Option.getD_none]; omega))
  have HG := hid (hg.below hW)
  have HD := hid (hd.below hW)
  clear hc hok hg hd
  go_enter Tryz.func13, Tryz.ntmps13
  go_wp2_with fail
  refine hck.out.mono ?_
  rintro e w1 ⟨rfl, hB1⟩
  have bG := ((Blk.new w #[.int .i64 g.n, .slice a g.es.length cap] 24).below hB1)
  have c0 : w1.cell? ⟨w.heap.size, 0, none⟩ = some (.int .i64 g.n) := bG.cell 0
  have c1 : w1.cell? ⟨w.heap.size, 1, none⟩ = some (.slice a g.es.length cap) := bG.cell 1
  clear bG
  dsimp only
  go_wp2_with fail
  refine (HP.out w1 _ _ (HG.out.below hB1) (HD.out.below hB1)).mono ?_
  rintro e w2 hr
  obtain ⟨v1, v2, v3, v4, rfl⟩ := hr.tuple
  have HR := hid (RetPl.base (up hW hB1) hr)
  clear hr HP HG HD hck c0 c1 hB1
  dsimp only
  go_wp2_with fail
  (try simp only [Exit.inBlock, Exit.then])
  refine bodyPost_ret (results_tmp4 rfl _ _ _) rfl ?_
  exact .inr ⟨HC.out, HR.out⟩

end Go.Proofs.YtbjoblkigbphhaaGreat

namespace Go.Proofs.YtbjoblkigbphhaaGreat
set_option linter.unusedSimpArgs false
set_option linter.unusedVariables false
open Go.RowKit Go.Shelf

set_option maxRecDepth 100000 in
set_option maxHeartbeats 1000000 in
theorem l_wheel (w : World) : Calls Tryz.prog 24 #[] w fun e w' => ∃ ev, e = .returned (.agg #[.int .i64 3, ev]) ∧ GrR w' (.agg #[.int .i64 3, ev]) triG ∧ Below w.heap.size w w' := by
  go_enter Tryz.func24, Tryz.ntmps24
  go_wp2
  refine bodyPost_ret (results_cell1 rfl rfl (load_graph (v0 := .int .i64 3) (v1 := .slice (some ⟨w.heap.size + 1, 0, none⟩) 3 3) ?_)) rfl ?_
  · exact (Blk.new w _ _).alloc _
  · refine ⟨_, rfl, ⟨.slice (some ⟨w.heap.size + 1, 0, none⟩) 3 3, rfl, some ⟨w.heap.size + 1, 0, none⟩, 3, rfl, Nat.le_refl _, by omega, by decide, .inr ⟨w.heap.size + 1, 0, rfl, by simp, fun i hi => ?_⟩⟩, by go_grown⟩
    have h := (Blk.new (w.alloc (.cells #[.int .i64 3, .slice (some ⟨w.heap.size + 1, 0, none⟩) 3 3] 24)) #[.int .i64 0, .int .i64 1, .int .i64 1, .int .i64 0, .int .i64 2, .int .i64 1, .int .i64 1, .int .i64 2, .int .i64 1] 96).cell (0 + i)
    rw [show (w.alloc (.cells #[.int .i64 3, .slice (some ⟨w.heap.size + 1, 0, none⟩) 3 3] 24)).heap.size = w.heap.size + 1 by simp] at h
    rw [h, Nat.zero_add]
    simp [triG, E.cells]
theorem cp_stab : (match stabR triG 0 [0, 2, 2] with | .inr s => decide (vecOf 3 s.L = [2, 1, 1]) && decide (vecOf 3 s.T = [0, 1, 1]) | _ => false) = true := by kernel_rfl
theorem cp_drift : (match driftP triG 0 [0, 2, 2] [0] with | .inr s => decide (vecOf 3 s.L = [2, 1, 1]) && decide (vecOf 3 s.T = [0, 1, 1]) && decide (s.most = 4) | _ => false) = true := by kernel_rfl
theorem cp_cfg : cfgErr triG 0 [0, 2, 2] = 0 := by kernel_rfl
theorem cp_r0 : decide (rdyN triG 0 3 (rndTo triG 0 3 (s0Of [0, 2, 2]) 0).L = []) = false := by kernel_rfl
theorem cp_r1 : decide (rdyN triG 0 3 (rndTo triG 0 3 (s0Of [0, 2, 2]) 1).L = []) = true := by kernel_rfl
theorem cp_s1 : decide (sumTo (rndTo triG 0 3 (s0Of [0, 2, 2]) 1).T 3 ≤ (maxF : Int)) = true := by kernel_rfl
theorem cp_s0 : decide (sumTo (rndTo triG 0 3 (s0Of [0, 2, 2]) 0).T 3 ≤ (maxF : Int)) = true := by kernel_rfl
theorem cp_b1 : bddB 3 (rndTo triG 0 3 (s0Of [0, 2, 2]) 1).L = true := by kernel_rfl
theorem cp_run {w w' : World} {e : Ending} (h : RetRun triG 0 [0, 2, 2] w e w') : Below w.heap.size w w' ∧ ∃ va vs, e = .returned (.tuple #[va, vs, .int .i64 1, .int .i64 0]) := by
  rcases h with ⟨h, _⟩ | ⟨_, hB, h⟩
  · exact absurd cp_cfg h
  · have k0 := of_decide_eq_false cp_r0
    have k1 := of_decide_eq_true cp_r1
    have hR : ∀ R, goesN triG 0 3 [0, 2, 2] R → R ≤ 1 := fun R hr => by
      rcases Nat.lt_or_ge 1 R with h2 | h2
      · exact absurd k1 (hr 1 h2)
      · exact h2
    refine ⟨hB, ?_⟩
    rcases h with ⟨R, hr, hs, _⟩ | ⟨R, hr, hs, hn, h⟩
    · exfalso
      have h1 := hR R hr
      have s0 := of_decide_eq_true cp_s0
      have s1 := of_decide_eq_true cp_s1
      rcases Nat.lt_or_ge R 1 with h2 | h2
      · obtain rfl : R = 0 := by omega
        exact absurd hs (Int.not_lt.2 s0)
      · obtain rfl : R = 1 := by omega
        exact absurd hs (Int.not_lt.2 s1)
    · have h1 := hR R hr
      rcases Nat.lt_or_ge R 1 with h2 | h2
      · obtain rfl : R = 0 := by omega
        exact absurd hn k0
      · obtain rfl : R = 1 := by omega
        rcases h with ⟨hb, _⟩ | ⟨_, va, vs, he, _⟩
        · have := cp_b1
          rw [show bddB 3 (rndTo triG 0 3 (s0Of [0, 2, 2]) 1).L = false from hb] at this
          cases this
        · exact ⟨va, vs, he⟩

set_option maxRecDepth 100000 in
set_option maxHeartbeats 4000000 in
theorem l_cases (w : World) : Calls Tryz.prog 8 #[] w fun e w' => e = .returned (.bool true) ∧ Below w.heap.size w w' := by
  have hT := hid (fun w => l_wheel w)
  go_enter Tryz.func8, Tryz.ntmps8
  go_wp2_with fail
  refine (hT.out _).mono ?_
  rintro e w1 ⟨ev, rfl, hG, hB1⟩
  have HG := hid hG
  clear hG
  dsimp only
  go_wp2_with fail
  refine (p_Stabilize triG _ 0 [0, 2, 2] _ _ ?q1g ?q1d).mono ?_
  case q1g => exact HG.out.alloc _
  case q1d => exact ints_at rfl rfl (by decide) rfl
  rintro e w2 hr
  obtain ⟨hB2, b1, c1, b2, c2, rfl, i1, i2⟩ := aw_tri cp_stab hr
  have I1 := hid i1
  have I2 := hid i2
  have B2 : Hid (Below w.heap.size w w2) := up (balloc' hB1 _) hB2
  clear hr i1 i2 hB2 hB1 HG
  dsimp only
  go_wp2_with fail
  refine (hT.out _).mono ?_
  rintro e w3 ⟨ev2, rfl, hG, hB3⟩
  have HG := hid hG
  have J1 := hid (I1.out.below hB3)
  have J2 := hid (I2.out.below hB3)
  have B3 := hid (up B2.out hB3)
  clear hG hB3 I1 I2 B2
  dsimp only
  go_wp2_with fail
  refine (q_Run triG _ 0 [0, 2, 2] _ _ ?q2g ?q2d).mono ?_
  case q2g => exact HG.out.alloc _
  case q2d => exact ints_at rfl rfl (by decide) rfl
  rintro e w4 hr
  obtain ⟨hB4, va, vs, rfl⟩ := cp_run hr
  have k4 : Below w3.heap.size w3 w4 := up (balloc' (Below.refl _ _) _) hB4
  have I1 := hid (J1.out.below k4)
  have I2 := hid (J2.out.below k4)
  have B4 := hid (up B3.out k4)
  clear hr hB4 k4 HG J1 J2 B3
  dsimp only
  go_wp2_with fail
  refine (hT.out _).mono ?_
  rintro e w5 ⟨ev3, rfl, hG, hB5⟩
  have HG := hid hG
  have J1 := hid (I1.out.below hB5)
  have J2 := hid (I2.out.below hB5)
  have B5 := hid (up B4.out hB5)
  clear hG hB5 I1 I2 B4
  dsimp only
  go_wp2_with fail
  refine (p_Drift triG _ 0 [0, 2, 2] _ [0] _ _ ?q6g ?q6d ?q6p).mono ?_
  case q6g => exact (HG.out.alloc _).alloc _
  case q6d => exact IntsR.alloc (ints_at (xs := [0, 2, 2]) rfl rfl (by decide) rfl) _
  case q6p => exact ints_at rfl rfl (by decide) (by simp)
  rintro e w6 hr
  obtain ⟨hB6, b8, c8, b9, c9, rfl, i8, i9⟩ := aw_quad cp_drift hr
  have k6 : Below w5.heap.size w5 w6 := up (balloc' (balloc' (Below.refl _ _) _) _) hB6
  have I1 := hid (J1.out.below k6)
  have I2 := hid (J2.out.below k6)
  have B6 := hid (up B5.out k6)
  clear hr i8 i9 hB6 k6 HG J1 J2 B5
  dsimp only
  go_wp2_with fail
  refine (r19_Same_eq [2, 1, 1] [0, 1, 1] _ _ _ _ _ ?q7a ?q7b ?q7c ?q7d (by decide) (by decide)).mono ?_
  case q7a => exact (I1.out.alloc _).alloc _
  case q7b => exact IntsR.alloc (ints_at (xs := [2, 1, 1]) rfl rfl (by decide) rfl) _
  case q7c => exact (I2.out.alloc _).alloc _
  case q7d => exact ints_at rfl rfl (by decide) (by simp)
  rintro e w7 ⟨rfl, hB7⟩
  have k7 : Below w6.heap.size w6 w7 := up (balloc' (balloc' (Below.refl _ _) _) _) hB7
  have B7 := hid (up B6.out k7)
  clear hB7 k7 I1 I2 B6
  dsimp only
  go_wp2_with fail
  go_ret
  exact ⟨rfl, B7.out⟩

end Go.Proofs.YtbjoblkigbphhaaGreat

namespace Go.Proofs.YtbjoblkigbphhaaGreat
set_option linter.unusedSimpArgs false
set_option linter.unusedVariables false
open Go.RowKit Go.Shelf

def pileB (g : G) (q : Int) (ds ps : List Int) : Bool := few18 g ds && (cfgErr g q ds == 0) && small17 ds && fewB ps.length && (pkErr ps == 0)
/-- A pile, as an argument. -/
def PileR (w : World) (xv : Value) (q : Int) (ds ps ss : List Int) : Prop := ∃ dv pv sv, xv = .agg #[.int .i64 q, dv, pv, sv] ∧ IntsR w dv ds ∧ IntsR w pv ps ∧ IntsR w sv ss
set_option maxRecDepth 100000 in
set_option maxHeartbeats 4000000 in
theorem l_pile (g : G) (gv : Value) (q : Int) (ds ps ss : List Int) (xv : Value) (w : World) (hg : GrR w gv g) (hx : PileR w xv q ds ps ss) :
    Calls Tryz.prog 5 #[gv, xv] w fun e w' => e = .returned (.bool (pileB g q ds ps)) ∧ Below w.heap.size w w' := by
  have hg' := hg
  obtain ⟨ev, rfl, a, cap, rfl, hcap, hcm, hlen, hc⟩ := hg'
  obtain ⟨dv, pv, sv, rfl, hd, hp, hs⟩ := hx
  have hd' := hd
  have hp' := hp
  obtain ⟨da, dc, rfl, _⟩ := hd'
  obtain ⟨pa, pc, rfl, _⟩ := hp'
  obtain ⟨sa, sc, rfl, _⟩ := hs
  obtain ⟨W1, hW1⟩ : ∃ W : World, W = (w.alloc (.cells #[.int .i64 g.n, .slice a g.es.length cap] 24)).alloc (.cells #[.int .i64 q, .slice da ds.length dc, .slice pa ps.length pc, .slice sa ss.length sc] 29) := ⟨_, rfl⟩
  have hB : Below w.heap.size w W1 := by rw [hW1]; exact ((Below.refl _ _).alloc (Nat.le_refl _) _).alloc (by simp) _
  have bG : Hid (Blk W1 w.heap.size #[.int .i64 g.n, .slice a g.es.length cap] 24) := by rw [hW1]; exact (Blk.new _ _ _).alloc _
  have bX' : Blk W1 (w.heap.size + 1) #[.int .i64 q, .slice da ds.length dc, .slice pa ps.length pc, .slice sa ss.length sc] 29 := by rw [hW1]; have := Blk.new (w.alloc (.cells #[.int .i64 g.n, .slice a g.es.length cap] 24)) #[.int .i64 q, .slice da ds.length dc, .slice pa ps.length pc, .slice sa ss.length sc] 29; simpa using this
  have bX := hid bX'
  clear bX'
  have hG := hid (hg.below hB)
  have hD := hid (hd.below hB)
  have hP := hid (hp.below hB)
  have HB := hid hB
  have c0 := bG.out.cell 0
  have c1 := bG.out.cell 1
  have d1 := bX.out.cell 1
  generalize hz : pileB g q ds ps = z
  have HZ := hid hz
  clear hg hd hp hB hz
  go_enter Tryz.func5, Tryz.ntmps5
  go_wp2_with fail
  rw [← hW1]
  clear hW1
  refine (r18_Few g _ ds _ _ hG.out hD.out).mono ?_
  rintro e w1 ⟨rfl, hB1⟩
  have B1 := hid hB1
  have x0 := (bX.out.below hB1).cell 0
  have x1 := (bX.out.below hB1).cell 1
  have y0 := (bG.out.below hB1).cell 0
  have y1 := (bG.out.below hB1).cell 1
  clear hB1 c0 c1 d1
  cases hf : few18 g ds with
  | false =>
    have hzf : Hid (z = false) := by show _ = _; rw [← HZ.out]; unfold pileB; rw [hf]; rfl
    clear HZ
    go_simp
    go_wp2_with fail
    go_ret
    exact ⟨by rw [hzf.out]; rfl, up HB.out B1.out⟩
  | true =>
  go_simp
  go_wp2_with fail
  refine (r19_Check g _ q ds _ _ (hG.out.below B1.out) (hD.out.below B1.out)).mono ?_
  rintro e w2 ⟨rfl, hB2⟩
  have B2 := hid (up B1.out hB2)
  have x1' := (bX.out.below B2.out).cell 1
  clear hB2 x0 x1 y0 y1 B1
  cases hq : (cfgErr g q ds == 0) with
  | false =>
    have hzf : Hid (z = false) := by show _ = _; rw [← HZ.out]; unfold pileB; rw [hf, hq]; rfl
    clear HZ
    generalize cfgErr g q ds = cc at hq
    go_simp
    go_wp2_with fail
    go_ret
    exact ⟨by rw [hzf.out]; rfl, up HB.out B2.out⟩
  | true =>
  have hcc := hid hq
  generalize cfgErr g q ds = cc at hq
  go_simp
  go_wp2_with fail
  refine (r17_Small ds _ _ (hD.out.below B2.out)).mono ?_
  rintro e w3 ⟨rfl, rfl⟩
  have x2 := (bX.out.below B2.out).cell 2
  clear x1'
  cases hs : small17 ds with
  | false =>
    have hzf : Hid (z = false) := by show _ = _; rw [← HZ.out]; unfold pileB; rw [hf, hcc.out, hs]; rfl
    clear HZ
    go_simp
    go_wp2_with fail
    go_ret
    exact ⟨by rw [hzf.out]; rfl, up HB.out B2.out⟩
  | true =>
  go_simp
  go_wp2_with fail
  refine (r21_FewPicks ps _ _ (hP.out.below B2.out)).mono ?_
  rintro e w4 ⟨rfl, rfl⟩
  cases hfp : fewB ps.length with
  | false =>
    have hzf : Hid (z = false) := by show _ = _; rw [← HZ.out]; unfold pileB; rw [hf, hcc.out, hs, hfp]; rfl
    clear HZ
    go_simp
    go_wp2_with fail
    go_ret
    exact ⟨by rw [hzf.out]; rfl, up HB.out B2.out⟩
  | true =>
  go_simp
  go_wp2_with fail
  refine (r21_Picks ps _ _ (hP.out.below B2.out)).mono ?_
  rintro e w5 ⟨rfl, rfl⟩
  have hzf : Hid (z = (pkErr ps == 0)) := by show _ = _; rw [← HZ.out]; unfold pileB; rw [hf, hcc.out, hs, hfp]; simp
  clear HZ
  generalize pkErr ps = k at *
  dsimp only
  go_wp2_with fail
  go_ret
  exact ⟨by rw [hzf.out]; rfl, up HB.out B2.out⟩

/-- Nothing waits. -/
def calmB (g : G) (q : Int) (ds : List Int) : Bool := decide ((waitTo (unst q (fun u => valence g u) ds) g.n.toNat).length = 0)
end Go.Proofs.YtbjoblkigbphhaaGreat
