/-
  Contracts of the reference for schedules (sandpileref21): Few, FewPicks, Picks, events, Check.
-/
import Derived.Test.YtlhbgainpeehoaaR19
import Derived.Test.YtlhbgainpeehoaaSpec2
namespace Go.Proofs.Ytlhbgainpeehoaa
open Go.RowKit

theorem r21_Few (l : List (Int × Int)) (lv : Value) (w : World) (hl : PairsR w lv l) :
    Calls Try.prog 26 #[lv] w fun e w' => e = .returned (.bool (fewB l.length)) ∧ w = w' := by
  obtain ⟨a, cap, rfl, hcap, hcm, hlen, hc⟩ := hl
  generalize hz : fewB l.length = z
  unfold fewB at hz
  have HZ := hid hz
  clear hz
  go_enter Try.func26, Try.ntmps26
  go_wp2
  all_goals
    go_ret
    exact ⟨ret_bool (by rw [← HZ.out]; grind), rfl⟩

theorem r21_FewPicks (l : List Int) (lv : Value) (w : World) (hl : IntsR w lv l) :
    Calls Try.prog 41 #[lv] w fun e w' => e = .returned (.bool (fewB l.length)) ∧ w = w' := by
  obtain ⟨a, cap, rfl, hcap, hcm, hlen, hc⟩ := hl
  generalize hz : fewB l.length = z
  unfold fewB at hz
  have HZ := hid hz
  clear hz
  go_enter Try.func41, Try.ntmps41
  go_wp2
  all_goals
    go_ret
    exact ⟨ret_bool (by rw [← HZ.out]; grind), rfl⟩

set_option maxHeartbeats 1000000 in
theorem r21_Picks (l : List Int) (lv : Value) (w : World) (hl : IntsR w lv l) :
    Calls Try.prog 30 #[lv] w fun e w' => e = .returned (.int .i64 (pkErr l)) ∧ w = w' := by
  obtain ⟨a, cap, rfl, hcap, hcm, hlen, hc⟩ := hl
  generalize hz : pkErr l = z
  unfold pkErr at hz
  by_cases h1 : 4096 < l.length
  · rw [if_pos h1] at hz
    subst hz
    go_enter Try.func30, Try.ntmps30
    go_wp2
    all_goals (go_ret; exact ⟨rfl, rfl⟩)
  rw [if_neg h1] at hz
  by_cases h2 : l.length = 0
  · rw [if_pos h2] at hz
    subst hz
    have hb : ((l.length : Int) == 0) = true := by simp [h2]
    have H2 := hid h2
    clear h2
    go_enter Try.func30, Try.ntmps30
    go_wp2
    all_goals (go_ret; exact ⟨rfl, rfl⟩)
  rw [if_neg h2] at hz
  have hb : ((l.length : Int) == 0) = false := beq_eq_false_iff_ne.2 (by omega)
  have HZ := hid hz
  clear hz
  have h2' : 0 < l.length := by omega
  clear h2
  go_enter Try.func30, Try.ntmps30
  go_wp2
  go_loop [3] (fun i => ∃ k : Nat, k ≤ l.length ∧ i = .int .i64 k ∧ Hid ((if (l.drop k).all (fun k => decide (0 ≤ k)) then (0 : Int) else 2) = z))
    (fun i => l.length - (intOf i).toNat)
  case atStart => exact ⟨0, Nat.zero_le _, rfl, HZ⟩
  case round =>
    obtain ⟨k, hk, rfl, HZ⟩ := hrel
    by_cases hlt : k < l.length
    · obtain ⟨b, off, rfl, hb, hcc⟩ := hc.int (by omega)
      have c1 := hcc k hlt
      clear hcc hc
      have HS := hid (drop_step l k hlt)
      have hx : l[k]?.getD default = l[k]?.getD 0 := rfl
      rw [hx] at HS
      clear hx
      generalize l[k]?.getD 0 = x at *
      by_cases hi : x < 0
      · go_wp2
        go_ret
        exact ⟨ret_int (by have := HZ.out; rw [HS.out, List.all_cons, show decide (0 ≤ x) = false by simp; omega] at this; simpa using this), rfl⟩
      · go_wp2
        go_round
        case rel => exact ⟨k + 1, by omega, by go_num, hid (by have := HZ.out; rw [HS.out, List.all_cons, show decide (0 ≤ x) = true by simp; omega] at this; simpa using this)⟩
        case measure => simp [intOf]; omega
    · go_wp2
      go_ret
      exact ⟨ret_int (by have := HZ.out; rw [List.drop_eq_nil_of_le (by omega)] at this; simpa using this), rfl⟩

set_option maxRecDepth 100000 in
set_option maxHeartbeats 2000000 in
theorem r21_events (g : G) (gv : Value) (l : List (Int × Int)) (lv : Value) (w : World) (hg : GrR w gv g) (hl : PairsR w lv l) :
    Calls Try.prog 47 #[gv, lv] w fun e w' => e = .returned (.int .i64 (evsErr g l)) ∧ Below w.heap.size w w' := by
  obtain ⟨ev, rfl, _⟩ := hg
  obtain ⟨a, cap, rfl, hcap, hcm, hlen, hc⟩ := hl
  generalize hz : evsErr g l = z
  unfold evsErr at hz
  have hW : Below w.heap.size w (w.alloc (.cells #[.int .i64 g.n, ev] 24)) := by go_grown
  by_cases h1 : 4096 < l.length
  · rw [if_pos h1] at hz
    subst hz
    go_enter Try.func47, Try.ntmps47
    go_wp2
    all_goals (go_ret; exact ⟨rfl, hW⟩)
  rw [if_neg h1] at hz
  have HZ := hid hz
  clear hz
  go_enter Try.func47, Try.ntmps47
  go_wp2
  go_loopw [5] (fun i wr => ∃ k : Nat, k ≤ l.length ∧ i = .int .i64 k ∧ Hid (firstNZ (evAt g l) k (l.length - k) = z) ∧
      Below (w.alloc (.cells #[.int .i64 g.n, ev] 24)).heap.size (w.alloc (.cells #[.int .i64 g.n, ev] 24)) wr)
    (fun i _ => l.length - (intOf i).toNat)
  case atStart => exact ⟨0, Nat.zero_le _, rfl, HZ, Below.refl _ _⟩
  case round =>
    obtain ⟨k, hk, rfl, HZ, hB⟩ := hrel
    obtain ⟨r1, r2⟩ := bcell hB
    have hBw : Below w.heap.size w wr := up hW hB
    have hs : w.heap.size + 1 ≤ wr.heap.size := by have := hB.size; simpa using this
    have hsk : ∀ k, w.heap.size < wr.heap.size + k := fun k => by omega
    have hs0 : w.heap.size < wr.heap.size := by omega
    by_cases hlt : k < l.length
    · have h0 := firstNZ_step (evAt g l) k l.length hlt

      have HS := hid h0
      have HD : Hid (evAt g l k = evErr g (l[k]?.getD (0, 0))) := rfl
      clear h0
      obtain ⟨b, off, rfl, hb, hcc⟩ := (hc.below hBw).pair (by omega)
      obtain ⟨c1, c2⟩ := hcc k hlt
      clear hcc
      have hb' : ∀ k, b < wr.heap.size + k := fun k => by omega
      generalize l[k]?.getD (0, 0) = x at *
      obtain ⟨kd, vl⟩ := x
      dsimp only at *
      have hsx : ∀ w', Below wr.heap.size wr w' → Below (w.alloc (.cells #[.int .i64 g.n, ev] 24)).heap.size (w.alloc (.cells #[.int .i64 g.n, ev] 24)) w' := fun w' h => up hB h
      go_wp2_with (go_at_call 78; refine (r08_Vertex _ _ _ _).mono ?_; rintro e w3 ⟨rfl, rfl⟩)
      all_goals first
        | (go_ret
           refine ⟨ret_int ?_, by go_grown⟩
           have h := HZ.out; have hd := HD.out; rw [HS.out] at h; simp only [evErr] at hd
           go_tidy; clear hB hBw c1 c2 HS HZ HD; grind)
        | (go_roundw
           case rel =>
             refine ⟨k + 1, by omega, by go_num, hid ?_, by go_grown⟩
             have h := HZ.out; have hd := HD.out; rw [HS.out] at h; simp only [evErr] at hd
             go_tidy; clear hB hBw c1 c2 HS HZ HD; grind
           case measure => simp [intOf]; omega)
    · go_wp2
      go_ret
      exact ⟨ret_int (by rw [← HZ.out, firstNZ_end _ _ _ (by omega)]), hBw⟩

theorem r21_Check (g : G) (gv : Value) (l : List (Int × Int)) (lv : Value) (w : World) (hg : GrR w gv g) (hl : PairsR w lv l) :
    Calls Try.prog 28 #[gv, lv] w fun e w' => e = .returned (.int .i64 (schErr g l)) ∧ Below w.heap.size w w' := by
  have hg' := hg
  obtain ⟨ev, rfl, _⟩ := hg'
  generalize hz : schErr g l = z
  unfold schErr at hz
  have hW : Below w.heap.size w (w.alloc (.cells #[.int .i64 g.n, ev] 24)) := by go_grown
  have hgr := hid (hg.below hW)
  have hlr := hid (hl.below hW)
  by_cases hc : checkErr g = 0
  · rw [if_neg (by simpa using hc)] at hz
    subst hz
    have hb : (checkErr g != 0) = false := by simpa using hc
    clear hc
    go_enter Try.func28, Try.ntmps28
    go_wp2_with (first
      | (go_at_call 61; refine (r08_Check g _ _ hgr.out).mono ?_; rintro e w1 ⟨rfl, hB1⟩; obtain ⟨r1, r2⟩ := bcell hB1)
      | (go_at_call 47; refine (r21_events g _ l _ _ (hgr.out.below hB1) (hlr.out.below hB1)).mono ?_; rintro e w2 ⟨rfl, hB2⟩))
    go_ret
    exact ⟨rfl, up (up hW hB1) hB2⟩
  · rw [if_pos hc] at hz
    subst hz
    have hb : (checkErr g != 0) = true := by simpa using hc
    clear hc
    go_enter Try.func28, Try.ntmps28
    go_wp2_with (go_at_call 61; refine (r08_Check g _ _ hgr.out).mono ?_; rintro e w1 ⟨rfl, hB1⟩; obtain ⟨r1, r2⟩ := bcell hB1)
    go_ret
    exact ⟨rfl, up hW hB1⟩

/-- The error of a configuration and picks. -/
theorem r21_given (g : G) (gv : Value) (q : Int) (ds : List Int) (dv : Value) (l : List Int) (lv : Value) (w : World) (hg : GrR w gv g) (hd : IntsR w dv ds) (hl : IntsR w lv l) :
    Calls Try.prog 54 #[gv, .int .i64 q, dv, lv] w fun e w' => e = .returned (.int .i64 (givErr g q ds l)) ∧ Below w.heap.size w w' := by
  have hg' := hg
  obtain ⟨ev, rfl, _⟩ := hg'
  generalize hz : givErr g q ds l = z
  unfold givErr at hz
  have hW : Below w.heap.size w (w.alloc (.cells #[.int .i64 g.n, ev] 24)) := by go_grown
  have hgr := hid (hg.below hW)
  have hdr := hid (hd.below hW)
  have hlr := hid (hl.below hW)
  by_cases hc : cfgErr g q ds = 0
  · rw [if_neg (by simpa using hc)] at hz
    subst hz
    have hb : (cfgErr g q ds != 0) = false := by simpa using hc
    clear hc
    go_enter Try.func54, Try.ntmps54
    go_wp2_with (first
      | (go_at_call 34; refine (r19_Check g _ _ ds _ _ hgr.out hdr.out).mono ?_; rintro e w1 ⟨rfl, hB1⟩; obtain ⟨r1, r2⟩ := bcell hB1)
      | (go_at_call 30; refine (r21_Picks l _ _ (hlr.out.below hB1)).mono ?_; rintro e w2 ⟨rfl, rfl⟩))
    go_ret
    exact ⟨rfl, up hW hB1⟩
  · rw [if_pos hc] at hz
    subst hz
    have hb : (cfgErr g q ds != 0) = true := by simpa using hc
    clear hc
    go_enter Try.func54, Try.ntmps54
    go_wp2_with (go_at_call 34; refine (r19_Check g _ _ ds _ _ hgr.out hdr.out).mono ?_; rintro e w1 ⟨rfl, hB1⟩; obtain ⟨r1, r2⟩ := bcell hB1)
    go_ret
    exact ⟨rfl, up hW hB1⟩

end Go.Proofs.Ytlhbgainpeehoaa
