/-
  Contracts of the program's schedule: run, started, Run, Trace.
-/
import Derived.Test.YtlhbgainpeehoaaP11
namespace Go.Proofs.Ytlhbgainpeehoaa
open Go.RowKit

theorem p_Run1 (k : Int) (w : World) : Calls Try.prog 46 #[.int .i64 k] w fun e w' => e = .returned (.bool (!inB k)) ∧ w = w' := by
  generalize hz : (!inB k) = z
  unfold inB at hz
  have HZ := hid hz
  clear hz
  have hd : Hid (z = (decide (1048576 < k) || decide (k < -1048576))) := by
    show _ = _
    rw [← HZ.out]
    apply Bool.eq_iff_iff.2
    simp only [Bool.not_eq_true', Bool.and_eq_false_imp, Bool.or_eq_true, decide_eq_true_eq, decide_eq_false_iff_not]
    omega
  clear HZ
  by_cases h1 : 1048576 < k
  · go_enter Try.func46, Try.ntmps46
    go_wp2
    go_ret
    exact ⟨ret_bool (by rw [hd.out]; simp [h1]), rfl⟩
  · by_cases h2 : k < -1048576
    all_goals
      go_enter Try.func46, Try.ntmps46
      go_wp2
      go_ret
      exact ⟨ret_bool (by rw [hd.out]; simp [h1, h2]), rfl⟩

set_option maxRecDepth 100000 in
set_option maxHeartbeats 1000000 in
theorem p_IndexFunc (ds : List Int) (dv : Value) (w : World) (hd : IntsR w dv ds) :
    Calls Try.prog 77 #[dv, .func (.func 46) #[] #[]] w fun e w' => (∃ r : Int, e = .returned (.int .i64 r) ∧ decide (0 ≤ r) = !(ds.all inB)) ∧ w = w' := by
  obtain ⟨a, cap, rfl, hcap, hcm, hlen, hc⟩ := hd
  generalize hz : (!(ds.all inB)) = z
  have HZ := hid hz
  clear hz
  go_enter Try.func77, Try.ntmps77
  go_wp2
  go_loop [8] (fun i => ∃ k : Nat, k ≤ ds.length ∧ i = .int .i64 k ∧ Hid ((!((ds.drop k).all inB)) = z)) (fun i => ds.length - (intOf i).toNat)
  case atStart => exact ⟨0, Nat.zero_le _, rfl, HZ⟩
  case round =>
    obtain ⟨k, hkn, rfl, HZ⟩ := hrel
    by_cases hlt : k < ds.length
    · have hlt' : (k : Int) < (ds.length : Int) := by omega
      have hk0 : (0 : Int) ≤ (k : Int) := by omega
      obtain ⟨b, off, rfl, hb, hcc⟩ := hc.int (by omega)
      have c1 := hcc k hlt
      have HS : Hid ((ds.drop k).all inB = (inB (ds[k]?.getD 0) && (ds.drop (k + 1)).all inB)) := by
        show _ = _
        rw [drop_step ds k hlt]
        rfl
      clear hcc hc
      generalize ds[k]?.getD 0 = x at *
      cases hx : inB x with
      | false =>
        have hz : z = true := by rw [← HZ.out, HS.out, hx]; rfl
        have hR := hid (p_Run1 x w)
        rw [hx] at hR
        go_wp2_with (go_at_call 46; refine hR.out.mono ?_; rintro e w1 ⟨rfl, rfl⟩)
        go_ret
        exact ⟨⟨k, rfl, by rw [hz]; simp⟩, rfl⟩
      | true =>
        have hz2 := hid HZ.out
        have hR := hid (p_Run1 x w)
        rw [hx] at hR
        go_wp2_with (go_at_call 46; refine hR.out.mono ?_; rintro e w1 ⟨rfl, rfl⟩)
        go_round
        case rel => exact ⟨k + 1, by omega, by go_num, hid (by have := HZ.out; rw [HS.out, hx] at this; simpa using this)⟩
        case measure => simp [intOf]; omega
    · have hz : z = false := by rw [← HZ.out, List.drop_eq_nil_of_le (by omega)]; rfl
      have hlt' : ¬ (k : Int) < (ds.length : Int) := by omega
      go_wp2
      go_ret
      exact ⟨⟨-1, rfl, by simp⟩, rfl⟩

theorem p_ContainsFunc (ds : List Int) (dv : Value) (w : World) (hd : IntsR w dv ds) :
    Calls Try.prog 45 #[dv, .func (.func 46) #[] #[]] w fun e w' => e = .returned (.bool (!(ds.all inB))) ∧ w = w' := by
  have hI := hid (p_IndexFunc ds dv w hd)
  generalize (!(ds.all inB)) = z at *
  clear hd
  go_enter Try.func45, Try.ntmps45
  go_wp2_with (go_at_call 77; refine hI.out.mono ?_; rintro e w1 ⟨⟨r, rfl, hr⟩, rfl⟩; have hR := hid hr; clear hr)
  go_ret
  exact ⟨ret_bool hR.out, rfl⟩

end Go.Proofs.Ytlhbgainpeehoaa
