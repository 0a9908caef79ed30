/-
  Contracts of the program's chips.Check and of schedule.events, Check, given.
-/
import Derived.Test.YtbjoblkigbphhaaGreatR21b
import Derived.Test.YtbjoblkigbphhaaGreatP1
namespace Go.Proofs.YtbjoblkigbphhaaGreat
open Go.RowKit

theorem p_within (k : Int) (w : World) :
    Calls Tryz.prog 83 #[.int .i64 k] w fun e w' => e = .returned (.bool (inB k)) ∧ w = w' := by
  generalize hz : inB k = z
  unfold inB at hz
  have HZ := hid hz
  clear hz
  go_enter Tryz.func83, Tryz.ntmps83
  go_wp2
  all_goals
    go_ret
    exact ⟨ret_bool (by rw [← HZ.out]; simp; omega), rfl⟩

theorem p_vertices (n : Int) (w : World) : Calls Tryz.prog 82 #[.int .i64 n] w fun e w' => e = .returned (.int .i64 (if n < 1 ∨ 12 < n then 2 else 0)) ∧ w = w' := by
  generalize hz : (if n < 1 ∨ 12 < n then (2 : Int) else 0) = z
  have HZ := hid hz
  clear hz
  go_enter Tryz.func82, Tryz.ntmps82
  go_wp2
  all_goals (go_ret; refine ⟨ret_int ?_, rfl⟩; have hz := HZ.out; clear HZ; grind)

set_option maxHeartbeats 1000000 in
theorem p_chips (ds : List Int) (dv : Value) (n : Int) (w : World) (hd : IntsR w dv ds) :
    Calls Tryz.prog 58 #[dv, .int .i64 n] w fun e w' => e = .returned (.int .i64 (dErr ds n)) ∧ w = w' := by
  obtain ⟨a, cap, rfl, hcap, hcm, hlen, hc⟩ := hd
  generalize hz : dErr ds n = z
  unfold dErr at hz
  by_cases hn : n < 1 ∨ 12 < n
  · rw [if_pos hn] at hz
    subst hz
    have hv := hid (p_vertices n w)
    rw [if_pos hn] at hv
    clear hn
    go_enter Tryz.func58, Tryz.ntmps58
    go_wp2_with (go_at_call 82; refine hv.out.mono ?_; rintro e w' ⟨rfl, rfl⟩)
    all_goals (go_ret; exact ⟨rfl, rfl⟩)
  rw [if_neg hn] at hz
  have hv := hid (p_vertices n w)
  rw [if_neg hn] at hv
  have h1 : 1 ≤ n := by omega
  have h2 : n ≤ 12 := by omega
  by_cases hl : (ds.length : Int) = n
  case neg =>
    rw [if_pos (by simpa using hl)] at hz
    subst hz
    have hb : ((ds.length : Int) != n) = true := by simpa using hl
    clear hn
    go_enter Tryz.func58, Tryz.ntmps58
    go_wp2_with (go_at_call 82; refine hv.out.mono ?_; rintro e w' ⟨rfl, rfl⟩)
    all_goals (go_ret; exact ⟨rfl, rfl⟩)
  rw [if_neg (by simpa using hl)] at hz
  have hb : ((ds.length : Int) != n) = false := by simpa using hl
  have HZ := hid hz
  have HL := hid hl
  clear hz hn hl
  go_enter Tryz.func58, Tryz.ntmps58
  go_wp2_with (go_at_call 82; refine hv.out.mono ?_; rintro e w' ⟨rfl, rfl⟩)
  go_loop [19] (fun i => ∃ k : Nat, k ≤ ds.length ∧ i = .int .i64 k ∧ Hid ((if (ds.drop k).all inB then (0 : Int) else 2) = z))
    (fun i => ds.length - (intOf i).toNat)
  case atStart => exact ⟨0, Nat.zero_le _, rfl, HZ⟩
  case round =>
    obtain ⟨k, hk, rfl, HZ⟩ := hrel
    by_cases hlt : k < ds.length
    · have hlt' : (k : Int) < n := by have := HL.out; omega
      obtain ⟨b, off, rfl, hb, hcc⟩ := hc.int (by omega)
      have c1 := hcc k hlt
      clear hcc hc
      have HS := hid (drop_step ds k hlt)
      have hx : ds[k]?.getD default = ds[k]?.getD 0 := rfl
      rw [hx] at HS
      clear hx
      generalize ds[k]?.getD 0 = x at *
      cases hi : inB x with
      | true =>
        go_wp2_with (go_at_call 83; refine (p_within _ _).mono ?_; rintro e w' ⟨rfl, rfl⟩)
        go_round
        case rel => exact ⟨k + 1, by omega, by go_num, hid (by have := HZ.out; rw [HS.out] at this; simpa [hi] using this)⟩
        case measure => simp [intOf]; omega
      | false =>
        go_wp2_with (go_at_call 83; refine (p_within _ _).mono ?_; rintro e w' ⟨rfl, rfl⟩)
        go_ret
        exact ⟨ret_int (by have := HZ.out; rw [HS.out] at this; simpa [hi] using this), rfl⟩
    · have hlt' : ¬ (k : Int) < n := by have := HL.out; omega
      go_wp2
      go_ret
      exact ⟨ret_int (by have := HZ.out; rw [List.drop_eq_nil_of_le (by omega)] at this; simpa using this), rfl⟩

/-- The least of a list. -/
def minTo (l : List Int) (k : Nat) : Int := (l.take (k + 1)).foldl min (l[0]?.getD 0)

theorem minTo_step (l : List Int) (k : Nat) (hk : k + 1 < l.length) : minTo l (k + 1) = min (minTo l k) (l[k + 1]?.getD 0) := by
  unfold minTo
  rw [List.take_succ_eq_append_getElem hk, List.foldl_append]
  simp [hk]

theorem foldl_min_le : ∀ (l : List Int) (x : Int), (l.foldl min x < 0) ↔ (x < 0 ∨ ∃ y ∈ l, y < 0)
  | [], x => by simp
  | a :: l, x => by
    rw [List.foldl_cons, foldl_min_le l (min x a)]
    simp only [List.mem_cons, exists_eq_or_imp]
    constructor
    · rintro (h | h)
      · omega
      · exact .inr (.inr h)
    · rintro (h | h | h)
      · exact .inl (by omega)
      · exact .inl (by omega)
      · exact .inr h

theorem minTo_neg (l : List Int) (h0 : 0 < l.length) : (minTo l (l.length - 1) < 0) ↔ l.all (fun k => decide (0 ≤ k)) = false := by
  unfold minTo
  rw [show l.length - 1 + 1 = l.length by omega, List.take_length, foldl_min_le]
  simp only [List.all_eq_false, decide_eq_true_eq, Int.not_le]
  constructor
  · rintro (h | h)
    · exact ⟨l[0], List.getElem_mem h0, by simpa [h0] using h⟩
    · exact h
  · exact .inr

theorem c_Min (l : List Int) (lv : Value) (w : World) (hl : IntsR w lv l) (h0 : 0 < l.length) :
    Calls Tryz.prog 66 #[lv] w fun e w' => e = .returned (.int .i64 (minTo l (l.length - 1))) ∧ w = w' := by
  obtain ⟨a, cap, rfl, hcap, hcm, hlen, hc⟩ := hl
  obtain ⟨b, off, rfl, hb, hc⟩ := hc.int h0
  have c0 := hc 0 h0
  rw [Nat.add_zero] at c0
  have HC := hid hc
  clear hc
  have hm0 : Hid (minTo l 0 = l[0]?.getD 0) := by
    show _ = _
    unfold minTo
    cases l with
    | nil => simp at h0
    | cons a l => simp [Int.min_self]
  rw [← hm0.out] at c0
  have h0' : (1 : Int) ≤ (l.length : Int) := by omega
  have h0'' : l.length ≠ 0 := by omega
  go_enter Tryz.func66, Tryz.ntmps66
  go_wp2
  go_loop [3, 4] (fun m i => ∃ k : Nat, k < l.length ∧ m = .int .i64 (minTo l k) ∧ i = .int .i64 (k + 1)) (fun _ i => l.length - (intOf i).toNat)
  case atStart => exact ⟨0, h0, rfl, rfl⟩
  case round =>
    obtain ⟨k, hk, rfl, rfl⟩ := hrel
    by_cases hlt : k + 1 < l.length
    · have c1 := HC.out (k + 1) hlt
      have hs := hid (minTo_step l k hlt)
      generalize l[k + 1]?.getD 0 = x at *
      go_wp2
      go_round
      case rel => exact ⟨k + 1, hlt, by rw [hs.out]; congr 1; grind, by go_num⟩
      case measure => simp [intOf]; omega
    · have he : k = l.length - 1 := by omega
      subst he
      go_wp2
      go_ret
      exact ⟨rfl, rfl⟩


end Go.Proofs.YtbjoblkigbphhaaGreat
