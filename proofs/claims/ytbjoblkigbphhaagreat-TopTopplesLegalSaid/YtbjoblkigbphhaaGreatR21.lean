/-
  Contracts of the reference for schedules (sandpileref21): Few, FewPicks, Picks, events, Check.
-/
import Derived.Test.YtbjoblkigbphhaaGreatR19
import Derived.Test.YtbjoblkigbphhaaGreatSpec2
namespace Go.Proofs.YtbjoblkigbphhaaGreat
open Go.RowKit

theorem r21_FewPicks (l : List Int) (lv : Value) (w : World) (hl : IntsR w lv l) :
    Calls Tryz.prog 20 #[lv] w fun e w' => e = .returned (.bool (fewB l.length)) ∧ w = w' := by
  obtain ⟨a, cap, rfl, hcap, hcm, hlen, hc⟩ := hl
  generalize hz : fewB l.length = z
  unfold fewB at hz
  have HZ := hid hz
  clear hz
  go_enter Tryz.func20, Tryz.ntmps20
  go_wp2
  all_goals
    go_ret
    exact ⟨ret_bool (by rw [← HZ.out]; grind), rfl⟩

set_option maxHeartbeats 1000000 in
theorem r21_Picks (l : List Int) (lv : Value) (w : World) (hl : IntsR w lv l) :
    Calls Tryz.prog 21 #[lv] w fun e w' => e = .returned (.int .i64 (pkErr l)) ∧ w = w' := by
  obtain ⟨a, cap, rfl, hcap, hcm, hlen, hc⟩ := hl
  generalize hz : pkErr l = z
  unfold pkErr at hz
  by_cases h1 : 4096 < l.length
  · rw [if_pos h1] at hz
    subst hz
    go_enter Tryz.func21, Tryz.ntmps21
    go_wp2
    all_goals (go_ret; exact ⟨rfl, rfl⟩)
  rw [if_neg h1] at hz
  by_cases h2 : l.length = 0
  · rw [if_pos h2] at hz
    subst hz
    have hb : ((l.length : Int) == 0) = true := by simp [h2]
    have H2 := hid h2
    clear h2
    go_enter Tryz.func21, Tryz.ntmps21
    go_wp2
    all_goals (go_ret; exact ⟨rfl, rfl⟩)
  rw [if_neg h2] at hz
  have hb : ((l.length : Int) == 0) = false := beq_eq_false_iff_ne.2 (by omega)
  have HZ := hid hz
  clear hz
  have h2' : 0 < l.length := by omega
  clear h2
  go_enter Tryz.func21, Tryz.ntmps21
  go_wp2
  go_loop [3] (fun i => ∃ k : Nat, k ≤ l.length ∧ i = .int .i64 k ∧ Hid ((if (l.drop k).all (fun k => decide (0 ≤ k)) then (0 : Int) else 2) = z))
    (fun i => l.length - (intOf i).toNat)
  case atStart => exact ⟨0, Nat.zero_le _, rfl, HZ⟩
  case round =>
    obtain ⟨k, hk, rfl, HZ⟩ := hrel
    by_cases hlt : k < l.length
    · obtain ⟨b, off, rfl, hb, hcc⟩ := hc.int (by omega)
      have c1 := hcc k hlt
      clear hcc hc
      have HS := hid (drop_step l k hlt)
      have hx : l[k]?.getD default = l[k]?.getD 0 := rfl
      rw [hx] at HS
      clear hx
      generalize l[k]?.getD 0 = x at *
      by_cases hi : x < 0
      · go_wp2
        go_ret
        exact ⟨ret_int (by have := HZ.out; rw [HS.out, List.all_cons, show decide (0 ≤ x) = false by simp; omega] at this; simpa using this), rfl⟩
      · go_wp2
        go_round
        case rel => exact ⟨k + 1, by omega, by go_num, hid (by have := HZ.out; rw [HS.out, List.all_cons, show decide (0 ≤ x) = true by simp; omega] at this; simpa using this)⟩
        case measure => simp [intOf]; omega
    · go_wp2
      go_ret
      exact ⟨ret_int (by have := HZ.out; rw [List.drop_eq_nil_of_le (by omega)] at this; simpa using this), rfl⟩

end Go.Proofs.YtbjoblkigbphhaaGreat
