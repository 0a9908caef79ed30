/-
  Contracts of the references for divisors (In, Check) and for stabilization (Rooted, Check).
-/
import Derived.Test.YtbjoblkigbphhaaGreatR08
namespace Go.Proofs.YtbjoblkigbphhaaGreat
open Go.RowKit

theorem r17_In (k : Int) (w : World) :
    Calls Tryz.prog 50 #[.int .i64 k] w fun e w' => e = .returned (.bool (inB k)) ∧ w = w' := by
  generalize hz : inB k = z
  unfold inB at hz
  have HZ := hid hz
  clear hz
  go_enter Tryz.func50, Tryz.ntmps50
  go_wp2
  all_goals
    go_ret
    exact ⟨ret_bool (by rw [← HZ.out]; simp; omega), rfl⟩

set_option maxHeartbeats 1000000 in
theorem r17_Check (ds : List Int) (dv : Value) (n : Int) (w : World) (hd : IntsR w dv ds) :
    Calls Tryz.prog 23 #[dv, .int .i64 n] w fun e w' => e = .returned (.int .i64 (dErr ds n)) ∧ w = w' := by
  obtain ⟨a, cap, rfl, hcap, hcm, hlen, hc⟩ := hd
  generalize hz : dErr ds n = z
  unfold dErr at hz
  by_cases hn : n < 1 ∨ 12 < n
  · rw [if_pos hn] at hz
    subst hz
    rcases hn with hn | hn
    all_goals
      go_enter Tryz.func23, Tryz.ntmps23
      go_wp2
      all_goals (go_ret; exact ⟨rfl, rfl⟩)
  rw [if_neg hn] at hz
  have h1 : 1 ≤ n := by omega
  have h2 : n ≤ 12 := by omega
  by_cases hl : (ds.length : Int) = n
  case neg =>
    rw [if_pos (by simpa using hl)] at hz
    subst hz
    have hb : ((ds.length : Int) != n) = true := by simpa using hl
    clear hn
    go_enter Tryz.func23, Tryz.ntmps23
    go_wp2
    all_goals (go_ret; exact ⟨rfl, rfl⟩)
  rw [if_neg (by simpa using hl)] at hz
  have hb : ((ds.length : Int) != n) = false := by simpa using hl
  have HZ := hid hz
  have HL := hid hl
  clear hz hn hl
  go_enter Tryz.func23, Tryz.ntmps23
  go_wp2
  go_loop [5] (fun i => ∃ k : Nat, k ≤ ds.length ∧ i = .int .i64 k ∧ Hid ((if (ds.drop k).all inB then (0 : Int) else 2) = z))
    (fun i => ds.length - (intOf i).toNat)
  case atStart => exact ⟨0, Nat.zero_le _, rfl, HZ⟩
  case round =>
    obtain ⟨k, hk, rfl, HZ⟩ := hrel
    by_cases hlt : k < ds.length
    · have hlt' : (k : Int) < n := by have := HL.out; omega
      obtain ⟨b, off, rfl, hb, hcc⟩ := hc.int (by omega)
      have c1 := hcc k hlt
      clear hcc hc
      have HS := hid (drop_step ds k hlt)
      have hx : ds[k]?.getD default = ds[k]?.getD 0 := rfl
      rw [hx] at HS
      clear hx
      generalize ds[k]?.getD 0 = x at *
      cases hi : inB x with
      | true =>
        go_wp2_with (go_at_call 50; refine (r17_In _ _).mono ?_; rintro e w' ⟨rfl, rfl⟩)
        go_round
        case rel => exact ⟨k + 1, by omega, by go_num, hid (by have := HZ.out; rw [HS.out] at this; simpa [hi] using this)⟩
        case measure => simp [intOf]; omega
      | false =>
        go_wp2_with (go_at_call 50; refine (r17_In _ _).mono ?_; rintro e w' ⟨rfl, rfl⟩)
        go_ret
        exact ⟨ret_int (by have := HZ.out; rw [HS.out] at this; simpa [hi] using this), rfl⟩
    · have hlt' : ¬ (k : Int) < n := by have := HL.out; omega
      go_wp2
      go_ret
      exact ⟨ret_int (by have := HZ.out; rw [List.drop_eq_nil_of_le (by omega)] at this; simpa using this), rfl⟩

set_option maxHeartbeats 1000000 in
theorem r19_Rooted (g : G) (gv : Value) (q : Int) (w : World) (hg : GrR w gv g) :
    Calls Tryz.prog 48 #[gv, .int .i64 q] w fun e w' => e = .returned (.int .i64 (rootedErr g q)) ∧ Below w.heap.size w w' := by
  have hg' := hg
  obtain ⟨ev, rfl, _⟩ := hg'
  generalize hz : rootedErr g q = z
  unfold rootedErr at hz
  have hW : Below w.heap.size w (w.alloc (.cells #[.int .i64 g.n, ev] 24)) := by go_grown
  have hgr := hid (hg.below hW)
  by_cases hc : checkErr g = 0
  case neg =>
    rw [if_pos hc] at hz
    subst hz
    have hb : (checkErr g != 0) = true := by simpa using hc
    clear hc
    go_enter Tryz.func48, Tryz.ntmps48
    go_wp2_with (go_at_call 22; refine (r08_Check g _ _ hgr.out).mono ?_; rintro e w1 ⟨rfl, hB1⟩; obtain ⟨r1, r2⟩ := bcell hB1)
    go_ret
    exact ⟨rfl, up hW hB1⟩
  rw [if_neg (by simpa using hc)] at hz
  have hb : (checkErr g != 0) = false := by simpa using hc
  have hk : Hid (Gok g) := hc
  clear hc
  by_cases hp : parts g = 1
  case neg =>
    rw [if_pos hp] at hz
    subst hz
    have hb2 : (parts g == 1) = false := by simpa using hp
    clear hp
    go_enter Tryz.func48, Tryz.ntmps48
    go_wp2_with (first
      | (go_at_call 22; refine (r08_Check g _ _ hgr.out).mono ?_; rintro e w1 ⟨rfl, hB1⟩; obtain ⟨r1, r2⟩ := bcell hB1)
      | (go_at_call 73; refine (r08_Connected g _ _ (hgr.out.below hB1) hk.out).mono ?_; rintro e w2 ⟨rfl, hB2⟩; obtain ⟨r3, r4⟩ := bcell hB2))
    go_ret
    exact ⟨rfl, up (up hW hB1) hB2⟩
  rw [if_neg (by simpa using hp)] at hz
  have hb2 : (parts g == 1) = true := by simpa using hp
  clear hp
  cases hv : vtx g.n q
  all_goals
    rw [hv] at hz
    simp only [Bool.false_eq_true, if_true, if_false] at hz
    subst hz
    go_enter Tryz.func48, Tryz.ntmps48
    go_wp2_with (first
      | (go_at_call 22; refine (r08_Check g _ _ hgr.out).mono ?_; rintro e w1 ⟨rfl, hB1⟩; obtain ⟨r1, r2⟩ := bcell hB1)
      | (go_at_call 73; refine (r08_Connected g _ _ (hgr.out.below hB1) hk.out).mono ?_; rintro e w2 ⟨rfl, hB2⟩; obtain ⟨r3, r4⟩ := bcell hB2; have hs1 := hB1.size; simp only [World.size_alloc] at hs1; have hs2 : w.heap.size < w1.heap.size := by omega)
      | (go_at_call 74; refine (r08_Vertex _ _ _ _).mono ?_; rintro e w3 ⟨rfl, rfl⟩))
    go_ret
    exact ⟨rfl, up (up (up hW hB1) hB2) (by go_grown)⟩

set_option maxHeartbeats 2000000 in
theorem r19_Check (g : G) (gv : Value) (q : Int) (ds : List Int) (dv : Value) (w : World) (hg : GrR w gv g) (hd : IntsR w dv ds) :
    Calls Tryz.prog 19 #[gv, .int .i64 q, dv] w fun e w' => e = .returned (.int .i64 (cfgErr g q ds)) ∧ Below w.heap.size w w' := by
  have hg' := hg
  obtain ⟨ev, rfl, _⟩ := hg'
  have hd' := hd
  obtain ⟨a, cap, rfl, hcap, hcm, hlen, hc⟩ := hd'
  generalize hz : cfgErr g q ds = z
  unfold cfgErr at hz
  have hW : Below w.heap.size w (w.alloc (.cells #[.int .i64 g.n, ev] 24)) := by go_grown
  have hgr := hid (hg.below hW)
  have hdr := hid (hd.below hW)
  by_cases hr : rootedErr g q = 0
  case neg =>
    rw [if_pos hr] at hz
    subst hz
    have hb : (rootedErr g q != 0) = true := by simpa using hr
    clear hr
    go_enter Tryz.func19, Tryz.ntmps19
    go_wp2_with (go_at_call 48; refine (r19_Rooted g _ _ _ hgr.out).mono ?_; rintro e w1 ⟨rfl, hB1⟩; obtain ⟨r1, r2⟩ := bcell hB1)
    go_ret
    exact ⟨rfl, up hW hB1⟩
  rw [if_neg (by simpa using hr)] at hz
  have hb : (rootedErr g q != 0) = false := by simpa using hr
  obtain ⟨hk, hq0, hqn⟩ := rooted_ok hr
  clear hr
  by_cases hde : dErr ds g.n = 0
  case neg =>
    rw [if_pos hde] at hz
    subst hz
    have hb2 : (dErr ds g.n != 0) = true := by simpa using hde
    clear hde
    go_enter Tryz.func19, Tryz.ntmps19
    go_wp2_with (first
      | (go_at_call 48; refine (r19_Rooted g _ _ _ hgr.out).mono ?_; rintro e w1 ⟨rfl, hB1⟩; obtain ⟨r1, r2⟩ := bcell hB1)
      | (go_at_call 23; refine (r17_Check ds _ _ _ (hdr.out.below hB1)).mono ?_; rintro e w2 ⟨rfl, rfl⟩))
    go_ret
    exact ⟨rfl, up hW hB1⟩
  rw [if_neg (by simpa using hde)] at hz
  have hb2 : (dErr ds g.n != 0) = false := by simpa using hde
  obtain ⟨hn1, hn2, hl, _⟩ := dErr_ok hde
  have HL := hid hl
  have HZ := hid hz
  clear hz hl hde
  go_enter Tryz.func19, Tryz.ntmps19
  go_wp2_with (first
    | (go_at_call 48; refine (r19_Rooted g _ _ _ hgr.out).mono ?_; rintro e w1 ⟨rfl, hB1⟩; obtain ⟨r1, r2⟩ := bcell hB1)
    | (go_at_call 23; refine (r17_Check ds _ _ _ (hdr.out.below hB1)).mono ?_; rintro e w2 ⟨rfl, rfl⟩))
  go_loop [9] (fun i => ∃ k : Nat, k ≤ g.n.toNat ∧ i = .int .i64 k ∧ Hid ((if anyFrom (debtAt q ds) k (g.n.toNat - k) then (2 : Int) else 0) = z))
    (fun i => g.n.toNat - (intOf i).toNat)
  case atStart => exact ⟨0, Nat.zero_le _, rfl, HZ⟩
  case round =>
    obtain ⟨k, hkn, rfl, HZ⟩ := hrel
    by_cases hlt : k < g.n.toNat
    · have hlt' : (k : Int) < g.n := by omega
      have hlt2 : k < ds.length := by have := HL.out; omega
      obtain ⟨b, off, rfl, hb', hcc⟩ := (hc.below (up hW hB1)).int (by omega)
      have c1 := hcc k hlt2
      clear hcc hc
      have HS := hid (anyFrom_step (debtAt q ds) k g.n.toNat hlt)
      have HD : Hid (debtAt q ds k = (decide ((k : Int) ≠ q) && decide (ds[k]?.getD 0 < 0))) := rfl
      generalize ds[k]?.getD 0 = x at *
      by_cases hv : (k : Int) = q
      · have hv2 : ((k : Int) != q) = false := by simpa using hv
        have hd0 : debtAt q ds k = false := by rw [HD.out]; simp [hv]
        clear hv
        go_wp2
        go_round
        case rel => exact ⟨k + 1, by omega, by go_num, hid (by have := HZ.out; rw [HS.out, hd0] at this; simpa using this)⟩
        case measure => simp [intOf]; omega
      · by_cases hx : x < 0
        · have hd0 : debtAt q ds k = true := by rw [HD.out]; simp [hv, hx]
          go_wp2
          go_ret
          exact ⟨ret_int (by have := HZ.out; rw [HS.out, hd0] at this; simpa using this), up hW hB1⟩
        · have hd0 : debtAt q ds k = false := by rw [HD.out]; simp [hx]
          go_wp2
          go_round
          case rel => exact ⟨k + 1, by omega, by go_num, hid (by have := HZ.out; rw [HS.out, hd0] at this; simpa using this)⟩
          case measure => simp [intOf]; omega
    · have hlt' : ¬ (k : Int) < g.n := by omega
      go_wp2
      go_ret
      exact ⟨ret_int (by have := HZ.out; rw [anyFrom_end _ _ _ (by omega)] at this; simpa using this), up hW hB1⟩

end Go.Proofs.YtbjoblkigbphhaaGreat
