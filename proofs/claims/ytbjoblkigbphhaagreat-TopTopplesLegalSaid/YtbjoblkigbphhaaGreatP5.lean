/-
  Contracts of the program's connect: Components, Connected; of its stabilize: rooted, Check; of its schedule: given.
-/
import Derived.Test.YtbjoblkigbphhaaGreatP3
import Derived.Test.YtbjoblkigbphhaaGreatSpec9
namespace Go.Proofs.YtbjoblkigbphhaaGreat
open Go.RowKit Go.Maps

/-- A slice of m elements, or none, with an error. -/
def RetLenE (w : World) (z : Int) (m : Nat) (e : Ending) (w' : World) : Prop := Below w.heap.size w w' ∧ ∃ a m' c, e = .returned (.tuple #[.slice a m' c, .int .i64 z]) ∧ (z = 0 → m' = m)

set_option maxRecDepth 100000 in
set_option maxHeartbeats 1000000 in
theorem p_Components (g : G) (gv : Value) (w : World) (hg : GrR w gv g) :
    Calls Tryz.prog 100 #[gv] w (RetLenE w (checkErr g) (parts g).toNat) := by
  have hg' := hg
  obtain ⟨ev, rfl, _⟩ := hg'
  have hW : Below w.heap.size w (w.alloc (.cells #[.int .i64 g.n, ev] 24)) := by go_grown
  have hgr := hid (hg.below hW)
  by_cases hc : checkErr g = 0
  case neg =>
    have hb : (checkErr g != 0) = true := by simpa using hc
    have HC := hid hc
    clear hc
    go_enter Tryz.func100, Tryz.ntmps100
    go_wp2_with (go_at_call 57; refine (p_Check g _ _ hgr.out).mono ?_; rintro e w1 ⟨rfl, hB1⟩; obtain ⟨r1, r2⟩ := bcell hB1)
    go_ret2
    exact ⟨up hW hB1, _, _, _, rfl, fun h => absurd h HC.out⟩
  have hb : (checkErr g != 0) = false := by simpa using hc
  have hk : Hid (Gok g) := hc
  have hpf := parts_forest hk.out
  obtain ⟨hn1, hn2⟩ := hk.out.n
  obtain ⟨N, hN, hN2⟩ : ∃ N : Nat, g.n = N ∧ N ≤ 12 := ⟨g.n.toNat, by omega, by omega⟩
  have hm : (parts g).toNat = cr (forestTo g g.es.length) N := by rw [hpf, hN]; simp
  rw [hm, hc]
  clear hc hm hpf
  have hle := hid (forestTo_le g g.es.length)
  have hj := hid (p_joined g (.agg #[.int .i64 g.n, ev]) hk.out)
  have HN := hid hN
  clear hN
  generalize forestTo g g.es.length = F at *
  obtain ⟨x0, x1, x2, x3, x4, x5, x6, x7, x8, x9, x10, x11, hfa⟩ : ∃ x0 x1 x2 x3 x4 x5 x6 x7 x8 x9 x10 x11 : Int, Hid (fArr F = #[.int .i64 x0, .int .i64 x1, .int .i64 x2, .int .i64 x3, .int .i64 x4, .int .i64 x5, .int .i64 x6, .int .i64 x7, .int .i64 x8, .int .i64 x9, .int .i64 x10, .int .i64 x11]) := ⟨_, _, _, _, _, _, _, _, _, _, _, _, rfl⟩
  go_enter Tryz.func100, Tryz.ntmps100
  go_wp2_with (first
    | (go_at_call 57; refine (p_Check g _ _ hgr.out).mono ?_; rintro e w1 ⟨rfl, hB1⟩; obtain ⟨r1, r2⟩ := bcell hB1; have hs1 := hB1.size; (simp only [World.size_alloc] at hs1))
    | (go_at_call 104; refine (hj.out _ (hgr.out.below hB1)).mono ?_; rintro e w2 ⟨rfl, hB2⟩; rw [hfa.out]; obtain ⟨r3, r4⟩ := bcell hB2; have hs2 := hB2.size; have u1 : w.heap.size < w1.heap.size := (by omega); have u2 : w.heap.size < w2.heap.size := (by omega))
    | (go_at_call 105; rw [HN.out]; refine (p_parts F hle.out _ N hN2 _ (by rw [hfa.out]; exact Blk.new w2 _ _)).mono ?_; rintro e w3 ⟨hB3, a3, c3, rfl⟩))
  go_ret2
  exact ⟨up ((up (up hW hB1) hB2).alloc (by omega) _) hB3, _, _, _, rfl, fun _ => rfl⟩

/-- Is the graph connected, and its error. -/
def RetConn (w : World) (g : G) (e : Ending) (w' : World) : Prop := Below w.heap.size w w' ∧ ∃ b, e = .returned (.tuple #[.bool b, .int .i64 (checkErr g)]) ∧ (checkErr g = 0 → b = (parts g == 1))

set_option maxRecDepth 100000 in
set_option maxHeartbeats 1000000 in
theorem p_Connected (g : G) (gv : Value) (w : World) (hg : GrR w gv g) :
    Calls Tryz.prog 85 #[gv] w (RetConn w g) := by
  have hg' := hg
  obtain ⟨ev, rfl, _⟩ := hg'
  have hW : Below w.heap.size w (w.alloc (.cells #[.int .i64 g.n, ev] 24)) := by go_grown
  have hgr := hid (hg.below hW)
  have hp := hid (partsTo_bd g g.n.toNat)
  have hC := hid (p_Components g (.agg #[.int .i64 g.n, ev]))
  go_enter Tryz.func85, Tryz.ntmps85
  go_wp2_with (go_at_call 100; refine (hC.out _ hgr.out).mono ?_; rintro e w1 ⟨hB1, a1, m1, c1, rfl, hm1⟩; have HM := hid hm1; clear hm1; obtain ⟨r1, r2⟩ := bcell hB1)
  go_ret2
  refine ⟨up hW hB1, ((m1 : Int) == 1), rfl, fun h => ?_⟩
  have h2 := HM.out h
  have h3 := hp.out.1
  rw [h2]
  unfold parts at *
  apply Bool.eq_iff_iff.2
  simp only [beq_iff_eq]
  omega

set_option maxRecDepth 100000 in
set_option maxHeartbeats 1000000 in
theorem p_rooted (g : G) (gv : Value) (q : Int) (w : World) (hg : GrR w gv g) :
    Calls Tryz.prog 62 #[gv, .int .i64 q] w fun e w' => e = .returned (.int .i64 (rootedErr g q)) ∧ Below w.heap.size w w' := by
  have hg' := hg
  obtain ⟨ev, rfl, _⟩ := hg'
  have hW : Below w.heap.size w (w.alloc (.cells #[.int .i64 g.n, ev] 24)) := by go_grown
  have hgr := hid (hg.below hW)
  generalize hz : rootedErr g q = z
  unfold rootedErr at hz
  by_cases hc : checkErr g = 0
  case neg =>
    rw [if_pos hc] at hz
    subst hz
    have hb : (checkErr g != 0) = true := by simpa using hc
    clear hc
    go_enter Tryz.func62, Tryz.ntmps62
    go_wp2_with (go_at_call 85; refine (p_Connected g _ _ hgr.out).mono ?_; rintro e w1 ⟨hB1, b1, rfl, hm1⟩; have HM := hid hm1; clear hm1; obtain ⟨r1, r2⟩ := bcell hB1)
    go_ret
    exact ⟨rfl, up hW hB1⟩
  rw [if_neg (by simpa using hc)] at hz
  have hb : (checkErr g != 0) = false := by simpa using hc
  have HC := hid hc
  clear hc
  by_cases hp : parts g = 1
  case neg =>
    rw [if_pos hp] at hz
    subst hz
    have hb2 : (parts g == 1) = false := by simpa using hp
    clear hp
    go_enter Tryz.func62, Tryz.ntmps62
    go_wp2_with (go_at_call 85; refine (p_Connected g _ _ hgr.out).mono ?_; rintro e w1 ⟨hB1, b1, rfl, hm1⟩; obtain rfl : b1 = false := (hm1 HC.out).trans hb2; clear hm1; obtain ⟨r1, r2⟩ := bcell hB1)
    go_ret
    exact ⟨rfl, up hW hB1⟩
  rw [if_neg (by simpa using hp)] at hz
  have hb2 : (parts g == 1) = true := by simpa using hp
  clear hp
  have HZ := hid hz
  clear hz
  go_enter Tryz.func62, Tryz.ntmps62
  go_wp2_with (go_at_call 85; refine (p_Connected g _ _ hgr.out).mono ?_; rintro e w1 ⟨hB1, b1, rfl, hm1⟩; obtain rfl : b1 = true := (hm1 HC.out).trans hb2; clear hm1; obtain ⟨r1, r2⟩ := bcell hB1)
  all_goals (go_ret; refine ⟨ret_int ?_, up hW hB1⟩; have hz := HZ.out; clear HZ; unfold vtx at hz; grind)

set_option maxRecDepth 100000 in
set_option maxHeartbeats 2000000 in
theorem p_stCheck (g : G) (gv : Value) (q : Int) (ds : List Int) (dv : Value) (w : World) (hg : GrR w gv g) (hd : IntsR w dv ds) :
    Calls Tryz.prog 37 #[gv, .int .i64 q, dv] w fun e w' => e = .returned (.int .i64 (cfgErr g q ds)) ∧ Below w.heap.size w w' := by
  have hg' := hg
  obtain ⟨ev, rfl, _⟩ := hg'
  have hd' := hd
  obtain ⟨a, cap, rfl, hcap, hcm, hlen, hc⟩ := hd'
  generalize hz : cfgErr g q ds = z
  unfold cfgErr at hz
  have hW : Below w.heap.size w (w.alloc (.cells #[.int .i64 g.n, ev] 24)) := by go_grown
  have hgr := hid (hg.below hW)
  have hdr := hid (hd.below hW)
  by_cases hr : rootedErr g q = 0
  case neg =>
    rw [if_pos hr] at hz
    subst hz
    have hb : (rootedErr g q != 0) = true := by simpa using hr
    clear hr
    go_enter Tryz.func37, Tryz.ntmps37
    go_wp2_with (go_at_call 62; refine (p_rooted g _ _ _ hgr.out).mono ?_; rintro e w1 ⟨rfl, hB1⟩; obtain ⟨r1, r2⟩ := bcell hB1)
    go_ret
    exact ⟨rfl, up hW hB1⟩
  rw [if_neg (by simpa using hr)] at hz
  have hb : (rootedErr g q != 0) = false := by simpa using hr
  obtain ⟨hk, hq0, hqn⟩ := rooted_ok hr
  clear hr
  by_cases hde : dErr ds g.n = 0
  case neg =>
    rw [if_pos hde] at hz
    subst hz
    have hb2 : (dErr ds g.n != 0) = true := by simpa using hde
    clear hde
    go_enter Tryz.func37, Tryz.ntmps37
    go_wp2_with (first
      | (go_at_call 62; refine (p_rooted g _ _ _ hgr.out).mono ?_; rintro e w1 ⟨rfl, hB1⟩; obtain ⟨r1, r2⟩ := bcell hB1)
      | (go_at_call 58; refine (p_chips ds _ _ _ (hdr.out.below hB1)).mono ?_; rintro e w2 ⟨rfl, rfl⟩))
    go_ret
    exact ⟨rfl, up hW hB1⟩
  rw [if_neg (by simpa using hde)] at hz
  have hb2 : (dErr ds g.n != 0) = false := by simpa using hde
  obtain ⟨hn1, hn2, hl, _⟩ := dErr_ok hde
  have HL := hid hl
  have HZ := hid hz
  clear hz hl hde
  go_enter Tryz.func37, Tryz.ntmps37
  go_wp2_with (first
    | (go_at_call 62; refine (p_rooted g _ _ _ hgr.out).mono ?_; rintro e w1 ⟨rfl, hB1⟩; obtain ⟨r1, r2⟩ := bcell hB1)
    | (go_at_call 58; refine (p_chips ds _ _ _ (hdr.out.below hB1)).mono ?_; rintro e w2 ⟨rfl, rfl⟩))
  go_loop [26] (fun i => ∃ k : Nat, k ≤ g.n.toNat ∧ i = .int .i64 k ∧ Hid ((if anyFrom (debtAt q ds) k (g.n.toNat - k) then (2 : Int) else 0) = z))
    (fun i => g.n.toNat - (intOf i).toNat)
  case atStart => exact ⟨0, Nat.zero_le _, rfl, HZ⟩
  case round =>
    obtain ⟨k, hkn, rfl, HZ⟩ := hrel
    by_cases hlt : k < g.n.toNat
    · have hlt2 : k < ds.length := by have := HL.out; omega
      have hlt' : (k : Int) < (ds.length : Int) := by omega
      obtain ⟨b, off, rfl, hb', hcc⟩ := (hc.below (up hW hB1)).int (by omega)
      have c1 := hcc k hlt2
      clear hcc hc
      have HS := hid (anyFrom_step (debtAt q ds) k g.n.toNat hlt)
      have HD : Hid (debtAt q ds k = (decide ((k : Int) ≠ q) && decide (ds[k]?.getD 0 < 0))) := rfl
      generalize ds[k]?.getD 0 = x at *
      by_cases hv : (k : Int) = q
      · have hv2 : ((k : Int) != q) = false := by simpa using hv
        have hd0 : debtAt q ds k = false := by rw [HD.out]; simp [hv]
        clear hv
        go_wp2
        go_round
        case rel => exact ⟨k + 1, by omega, by go_num, hid (by have := HZ.out; rw [HS.out, hd0] at this; simpa using this)⟩
        case measure => simp [intOf]; omega
      · by_cases hx : x < 0
        · have hd0 : debtAt q ds k = true := by rw [HD.out]; simp [hv, hx]
          go_wp2
          go_ret
          exact ⟨ret_int (by have := HZ.out; rw [HS.out, hd0] at this; simpa using this), up hW hB1⟩
        · have hd0 : debtAt q ds k = false := by rw [HD.out]; simp [hx]
          go_wp2
          go_round
          case rel => exact ⟨k + 1, by omega, by go_num, hid (by have := HZ.out; rw [HS.out, hd0] at this; simpa using this)⟩
          case measure => simp [intOf]; omega
    · have hlt' : ¬ (k : Int) < (ds.length : Int) := by have := HL.out; omega
      go_wp2
      go_ret
      exact ⟨ret_int (by have := HZ.out; rw [anyFrom_end _ _ _ (by omega)] at this; simpa using this), up hW hB1⟩

set_option maxRecDepth 100000 in
set_option maxHeartbeats 2000000 in
theorem p_given (g : G) (gv : Value) (q : Int) (ds : List Int) (dv : Value) (l : List Int) (lv : Value) (w : World) (hg : GrR w gv g) (hd : IntsR w dv ds) (hl : IntsR w lv l) :
    Calls Tryz.prog 39 #[gv, .int .i64 q, dv, lv] w fun e w' => e = .returned (.int .i64 (givErr g q ds l)) ∧ Below w.heap.size w w' := by
  have hg' := hg
  obtain ⟨ev, rfl, _⟩ := hg'
  have hl' := hl
  obtain ⟨a, cap, rfl, hcap, hcm, hlen, hcs⟩ := hl'
  generalize hz : givErr g q ds l = z
  unfold givErr at hz
  have hW : Below w.heap.size w (w.alloc (.cells #[.int .i64 g.n, ev] 24)) := by go_grown
  have hgr := hid (hg.below hW)
  have hdr := hid (hd.below hW)
  have hlr := hid (hl.below hW)
  by_cases hc : cfgErr g q ds = 0
  case neg =>
    rw [if_pos hc] at hz
    subst hz
    have hb : (cfgErr g q ds != 0) = true := by simpa using hc
    clear hc
    go_enter Tryz.func39, Tryz.ntmps39
    go_wp2_with (go_at_call 37; refine (p_stCheck g _ _ ds _ _ hgr.out hdr.out).mono ?_; rintro e w1 ⟨rfl, hB1⟩; obtain ⟨r1, r2⟩ := bcell hB1)
    go_ret
    exact ⟨rfl, up hW hB1⟩
  rw [if_neg (by simpa using hc)] at hz
  have hb : (cfgErr g q ds != 0) = false := by simpa using hc
  clear hc
  unfold pkErr at hz
  by_cases h1 : 4096 < l.length
  · rw [if_pos h1] at hz
    subst hz
    have h1' : (4096 : Int) < (l.length : Int) := by omega
    clear h1
    go_enter Tryz.func39, Tryz.ntmps39
    go_wp2_with (go_at_call 37; refine (p_stCheck g _ _ ds _ _ hgr.out hdr.out).mono ?_; rintro e w1 ⟨rfl, hB1⟩; obtain ⟨r1, r2⟩ := bcell hB1)
    go_ret
    exact ⟨rfl, up hW hB1⟩
  rw [if_neg h1] at hz
  have h1' : ¬ (4096 : Int) < (l.length : Int) := by omega
  by_cases h0 : l.length = 0
  · rw [if_pos h0] at hz
    subst hz
    have h0' : ((l.length : Int) == 0) = true := by rw [beq_iff_eq]; omega
    clear h0 h1
    go_enter Tryz.func39, Tryz.ntmps39
    go_wp2_with (go_at_call 37; refine (p_stCheck g _ _ ds _ _ hgr.out hdr.out).mono ?_; rintro e w1 ⟨rfl, hB1⟩; obtain ⟨r1, r2⟩ := bcell hB1)
    go_ret
    exact ⟨rfl, up hW hB1⟩
  rw [if_neg h0] at hz
  have h0' : ((l.length : Int) == 0) = false := by rw [beq_eq_false_iff_ne]; omega
  have hmn := hid (minTo_neg l (by omega))
  have h0'' : 0 < l.length := by omega
  have hmin := fun w1 (h : IntsR w1 (.slice a l.length cap) l) => c_Min l (.slice a l.length cap) w1 h h0''
  have HMIN := hid hmin
  clear hmin
  generalize minTo l (l.length - 1) = mn at *
  by_cases hm : mn < 0
  · rw [hmn.out.1 hm] at hz
    simp only [Bool.false_eq_true, if_false] at hz
    subst hz
    clear h0 h1
    go_enter Tryz.func39, Tryz.ntmps39
    go_wp2_with (first
      | (go_at_call 37; refine (p_stCheck g _ _ ds _ _ hgr.out hdr.out).mono ?_; rintro e w1 ⟨rfl, hB1⟩; obtain ⟨r1, r2⟩ := bcell hB1)
      | (go_at_call 66; refine (HMIN.out _ (hlr.out.below hB1)).mono ?_; rintro e w2 ⟨rfl, rfl⟩))
    go_ret
    exact ⟨rfl, up hW hB1⟩
  · have hm2 : l.all (fun k => decide (0 ≤ k)) = true := by
      cases h : l.all (fun k => decide (0 ≤ k))
      · exact absurd (hmn.out.2 h) hm
      · rfl
    rw [hm2] at hz
    simp only [if_true] at hz
    subst hz
    clear h0 h1
    go_enter Tryz.func39, Tryz.ntmps39
    go_wp2_with (first
      | (go_at_call 37; refine (p_stCheck g _ _ ds _ _ hgr.out hdr.out).mono ?_; rintro e w1 ⟨rfl, hB1⟩; obtain ⟨r1, r2⟩ := bcell hB1)
      | (go_at_call 66; refine (HMIN.out _ (hlr.out.below hB1)).mono ?_; rintro e w2 ⟨rfl, rfl⟩))
    go_ret
    exact ⟨rfl, up hW hB1⟩

end Go.Proofs.YtbjoblkigbphhaaGreat
