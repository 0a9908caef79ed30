/-
  The reference's classes of bytes: Letter, Digit, Sign, letters, digits, Word, number, run, first: each returns what the plain text's function says, for every text.
-/
import Derived.Test.YtkeglokokleonaaDoorK1
namespace Go.Proofs.YtkeglokokleonaaDoor
open Go.RowKit

set_option maxHeartbeats 1000000 in
theorem r_Letter (c : UInt8) (w : World) : Calls Tryd.prog 54 #[.int .u8 c.toNat] w fun e w' => e = .returned (.bool (isLet c)) ∧ w' = w := by
  by_cases h1 : 97 ≤ c.toNat
  · have h1' : (97 : Int) ≤ c.toNat := by omega
    go_enter Tryd.func54, Tryd.ntmps54
    go_wp2
    go_ret
    exact ⟨ret_bool (by simp [isLet, h1]; omega), rfl⟩
  · have h1' : ¬ (97 : Int) ≤ c.toNat := by omega
    go_enter Tryd.func54, Tryd.ntmps54
    go_wp2
    go_ret
    exact ⟨ret_bool (by simp [isLet, h1]), rfl⟩

set_option maxHeartbeats 1000000 in
theorem r_Digit (c : UInt8) (w : World) : Calls Tryd.prog 56 #[.int .u8 c.toNat] w fun e w' => e = .returned (.bool (isDig c)) ∧ w' = w := by
  by_cases h1 : 48 ≤ c.toNat
  · have h1' : (48 : Int) ≤ c.toNat := by omega
    go_enter Tryd.func56, Tryd.ntmps56
    go_wp2
    go_ret
    exact ⟨ret_bool (by simp [isDig, h1]; omega), rfl⟩
  · have h1' : ¬ (48 : Int) ≤ c.toNat := by omega
    go_enter Tryd.func56, Tryd.ntmps56
    go_wp2
    go_ret
    exact ⟨ret_bool (by simp [isDig, h1]), rfl⟩

theorem all_take (p : UInt8 → Bool) (l : List UInt8) (k : Nat) (hk : k < l.length) : (l.take (k + 1)).all p = ((l.take k).all p && p l[k]) := by
  rw [List.take_succ_eq_append_getElem hk, List.all_append]; simp
theorem all_stop (p : UInt8 → Bool) (l : List UInt8) (k : Nat) (hk : k < l.length) (h : p l[k] = false) : l.all p = false := by
  rw [List.all_eq_false]; exact ⟨l[k], List.getElem_mem hk, by simp [h]⟩

set_option maxHeartbeats 1000000 in
theorem r_Sign (c : UInt8) (w : World) : Calls Tryd.prog 52 #[.int .u8 c.toNat] w fun e w' => e = .returned (.bool (isSgn c)) ∧ w' = w := by
  have hsz : (str marks).size = 17 := rfl
  go_enter Tryd.func52, Tryd.ntmps52
  go_wp2
  rw [show ({ data := #[44, 59, 58, 40, 41, 123, 125, 91, 93, 61, 43, 45, 42, 47, 60, 62, 46] } : ByteArray) = str marks from rfl]
  go_loopw [4] (fun i wr => ∃ k : Nat, k ≤ 17 ∧ i = .int .i64 k ∧ (marks.take k).all (fun x => x != c) = true ∧ wr = w) (fun i _ => 17 - (intOf i).toNat)
  case atStart => exact ⟨0, by omega, rfl, rfl, rfl⟩
  case round =>
    obtain ⟨k, hk, rfl, ha, rfl⟩ := hrel
    by_cases hkt : k < 17
    · have hkt' : k < (str marks).size := hkt
      have hml : k < marks.length := hkt
      by_cases hc : marks[k] = c
      · have he : (((((str marks)[k]'hkt').toNat : Nat) : Int) == (c.toNat : Int)) = true := by rw [str_at, hc]; exact beq_self_eq_true _
        go_wp2_with fail
        go_ret
        exact ⟨ret_bool (by rw [isSgn, eq_comm, List.contains_iff_mem, ← hc]; exact List.getElem_mem hml), rfl⟩
      · have he : (((((str marks)[k]'hkt').toNat : Nat) : Int) == (c.toNat : Int)) = false := by
          rw [str_at, beq_eq_false_iff_ne]; intro h; exact hc (UInt8.toNat_inj.1 (Int.ofNat.inj h))
        have hx : (marks.take (k + 1)).all (fun x => x != c) = true := by rw [all_take _ marks k hml, ha]; simpa using hc
        go_wp2_with fail
        go_roundw
        case rel => exact ⟨k + 1, by omega, by go_num, hx, trivial⟩
        case measure => simp [intOf]; omega
    · have hkt' : ¬ k < (str marks).size := hkt
      have hal : marks.all (fun x => x != c) = true := by rw [List.take_of_length_le (by show 17 ≤ k; omega)] at ha; exact ha
      go_wp2_with fail
      go_ret
      refine ⟨ret_bool ?_, rfl⟩
      rw [isSgn, eq_comm, Bool.eq_false_iff, ne_eq, List.contains_iff_mem]
      intro hm
      have := List.all_eq_true.1 hal c hm
      simp at this

set_option maxHeartbeats 2000000 in
theorem r_letters (l : List UInt8) (w : World) (hl : l.length ≤ 140737488355328) : Calls Tryd.prog 75 #[.string (str l)] w fun e w' => e = .returned (.bool (!l.isEmpty && l.all isLet)) ∧ w' = w := by
  have hsz := str_size l
  go_enter Tryd.func75, Tryd.ntmps75
  go_wp2
  go_loopw [3] (fun i wr => ∃ k : Nat, k ≤ l.length ∧ i = .int .i64 k ∧ (l.take k).all isLet = true ∧ wr = w) (fun i _ => l.length - (intOf i).toNat)
  case atStart => exact ⟨0, Nat.zero_le _, rfl, rfl, rfl⟩
  case round =>
    obtain ⟨k, hk, rfl, ha, rfl⟩ := hrel
    by_cases hkt : k < l.length
    · have hkt' : k < (str l).size := by rw [hsz]; exact hkt
      have hd : ∀ w, Calls Tryd.prog 54 #[.int .u8 (str l)[k].toNat] w fun e w' => e = .returned (.bool (isLet l[k])) ∧ w' = w := fun w => r_Letter (str l)[k] w
      cases hp : isLet l[k] with
      | true =>
        have hx : (l.take (k + 1)).all isLet = true := by rw [all_take _ l k hkt, ha]; exact hp
        rw [hp] at hd
        go_wp2_with fail
        refine (hd _).mono ?_
        rintro e w1 ⟨rfl, rfl⟩
        go_simp
        go_wp2_with fail
        go_roundw
        case rel => exact ⟨k + 1, by omega, by go_num, hx, trivial⟩
        case measure => simp [intOf]; omega
      | false =>
        rw [hp] at hd
        go_wp2_with fail
        refine (hd _).mono ?_
        rintro e w1 ⟨rfl, rfl⟩
        go_simp
        go_wp2_with fail
        go_ret
        exact ⟨ret_bool (by rw [all_stop _ l k hkt hp, Bool.and_false]), rfl⟩
    · have hkt' : ¬ k < (str l).size := by rw [hsz]; exact hkt
      have hal : l.all isLet = true := by rw [List.take_of_length_le (by omega)] at ha; exact ha
      go_wp2_with fail
      go_ret
      refine ⟨ret_bool ?_, rfl⟩
      rw [hal, Bool.and_true]
      cases l <;> simp

set_option maxHeartbeats 2000000 in
theorem r_digits (l : List UInt8) (w : World) (hl : l.length ≤ 140737488355328) : Calls Tryd.prog 76 #[.string (str l)] w fun e w' => e = .returned (.bool (!l.isEmpty && l.all isDig)) ∧ w' = w := by
  have hsz := str_size l
  go_enter Tryd.func76, Tryd.ntmps76
  go_wp2
  go_loopw [3] (fun i wr => ∃ k : Nat, k ≤ l.length ∧ i = .int .i64 k ∧ (l.take k).all isDig = true ∧ wr = w) (fun i _ => l.length - (intOf i).toNat)
  case atStart => exact ⟨0, Nat.zero_le _, rfl, rfl, rfl⟩
  case round =>
    obtain ⟨k, hk, rfl, ha, rfl⟩ := hrel
    by_cases hkt : k < l.length
    · have hkt' : k < (str l).size := by rw [hsz]; exact hkt
      have hd : ∀ w, Calls Tryd.prog 56 #[.int .u8 (str l)[k].toNat] w fun e w' => e = .returned (.bool (isDig l[k])) ∧ w' = w := fun w => r_Digit (str l)[k] w
      cases hp : isDig l[k] with
      | true =>
        have hx : (l.take (k + 1)).all isDig = true := by rw [all_take _ l k hkt, ha]; exact hp
        rw [hp] at hd
        go_wp2_with fail
        refine (hd _).mono ?_
        rintro e w1 ⟨rfl, rfl⟩
        go_simp
        go_wp2_with fail
        go_roundw
        case rel => exact ⟨k + 1, by omega, by go_num, hx, trivial⟩
        case measure => simp [intOf]; omega
      | false =>
        rw [hp] at hd
        go_wp2_with fail
        refine (hd _).mono ?_
        rintro e w1 ⟨rfl, rfl⟩
        go_simp
        go_wp2_with fail
        go_ret
        exact ⟨ret_bool (by rw [all_stop _ l k hkt hp, Bool.and_false]), rfl⟩
    · have hkt' : ¬ k < (str l).size := by rw [hsz]; exact hkt
      have hal : l.all isDig = true := by rw [List.take_of_length_le (by omega)] at ha; exact ha
      go_wp2_with fail
      go_ret
      refine ⟨ret_bool ?_, rfl⟩
      rw [hal, Bool.and_true]
      cases l <;> simp

set_option maxHeartbeats 2000000 in
theorem r_Word (l : List UInt8) (w : World) (hl : l.length ≤ 140737488355328) : Calls Tryd.prog 55 #[.string (str l)] w fun e w' => e = .returned (.int .i64 (wordErr l)) ∧ w' = w := by
  have hsz := str_size l
  have hd := fun w => r_letters l w hl
  cases h1 : (!l.isEmpty && l.all isLet) with
  | false =>
    rw [h1] at hd
    have hz : wordErr l = 3 := by unfold wordErr; rw [if_pos]; revert h1; cases l.isEmpty <;> cases l.all isLet <;> simp
    rw [hz]
    go_enter Tryd.func55, Tryd.ntmps55
    go_wp2_with fail
    refine (hd _).mono ?_
    rintro e w1 ⟨rfl, rfl⟩
    go_simp
    go_wp2_with fail
    go_ret
    exact ⟨rfl, rfl⟩
  | true =>
    rw [h1] at hd
    have hz : wordErr l = if 24 < (str l).size then 19 else 0 := by
      unfold wordErr; rw [if_neg, hsz]; revert h1; cases l.isEmpty <;> cases l.all isLet <;> simp
    go_enter Tryd.func55, Tryd.ntmps55
    go_wp2_with fail
    refine (hd _).mono ?_
    rintro e w1 ⟨rfl, rfl⟩
    go_simp
    go_wp2_with fail
    · go_ret
      exact ⟨ret_int (by rw [hz, if_pos (by omega)]), rfl⟩
    · go_ret
      exact ⟨ret_int (by rw [hz, if_neg (by omega)]), rfl⟩

set_option maxHeartbeats 2000000 in
theorem r_number (l : List UInt8) (w : World) (hl : l.length ≤ 140737488355328) : Calls Tryd.prog 57 #[.string (str l)] w fun e w' => e = .returned (.int .i64 (numErr l)) ∧ w' = w := by
  have hsz := str_size l
  have hd := fun w => r_digits l w hl
  cases h1 : (!l.isEmpty && l.all isDig) with
  | false =>
    rw [h1] at hd
    have hz : numErr l = 3 := by unfold numErr; rw [if_pos]; revert h1; cases l.isEmpty <;> cases l.all isDig <;> simp
    rw [hz]
    go_enter Tryd.func57, Tryd.ntmps57
    go_wp2_with fail
    refine (hd _).mono ?_
    rintro e w1 ⟨rfl, rfl⟩
    go_simp
    go_wp2_with fail
    go_ret
    exact ⟨rfl, rfl⟩
  | true =>
    rw [h1] at hd
    have hz : numErr l = if 1024 < (str l).size then 11 else if natB l = true then 0 else 3 := by
      unfold numErr; rw [if_neg, hsz]; revert h1; cases l.isEmpty <;> cases l.all isDig <;> simp
    have hl0 : 0 < l.length := by cases l with
      | nil => simp at h1
      | cons c r => simp
    have hs0 : 0 < (str l).size := by rw [hsz]; exact hl0
    obtain ⟨c, hcd⟩ : ∃ c, c = (str l)[0]'hs0 := ⟨_, rfl⟩
    have hn : natB l = (decide (c ≠ 48) || decide (l.length = 1)) := by
      have h2 : l.all isDig = true := by revert h1; cases l.all isDig <;> simp
      rw [hcd, str_at]
      cases l with
      | nil => simp at hl0
      | cons d r => unfold natB; rw [h2]; simp
    by_cases hlen : 1024 < l.length
    · have h1024 : (1024 : Int) < ((str l).size : Int) := by rw [hsz]; omega
      rw [hz, if_pos (by rw [hsz]; exact hlen)]
      clear hl hlen hz hn hsz h1 hl0 hcd
      go_enter Tryd.func57, Tryd.ntmps57
      go_wp2_with fail
      refine (hd _).mono ?_
      rintro e w1 ⟨rfl, rfl⟩
      go_simp
      go_wp2_with fail
      go_ret
      exact ⟨rfl, rfl⟩
    · have h1024 : ¬ (1024 : Int) < ((str l).size : Int) := by rw [hsz]; omega
      rw [hz, if_neg (by rw [hsz]; exact hlen)]
      by_cases hone : 1 < l.length
      · have h2 : (1 : Int) < ((str l).size : Int) := by rw [hsz]; omega
        by_cases hc : c = 48
        · have hc' : (((str l)[0].toNat : Nat) : Int) = 48 := by rw [← hcd, hc]; rfl
          have hn' : natB l = false := by rw [hn, hc, decide_eq_false (by omega : ¬ l.length = 1)]; rfl
          rw [hn']
          clear hl hlen hone hz hn hn' hsz h1 hl0 hcd
          go_enter Tryd.func57, Tryd.ntmps57
          go_wp2_with fail
          refine (hd _).mono ?_
          rintro e w1 ⟨rfl, rfl⟩
          go_simp
          go_wp2_with fail
          go_ret
          exact ⟨rfl, rfl⟩
        · have hc' : ¬ (((str l)[0].toNat : Nat) : Int) = 48 := by
            rw [← hcd]; intro h; exact hc (UInt8.toNat_inj.1 (by have : (48 : UInt8).toNat = 48 := rfl; omega))
          have hn' : natB l = true := by rw [hn]; simp [hc]
          rw [hn']
          clear hl hlen hone hz hn hn' hsz h1 hl0 hcd
          go_enter Tryd.func57, Tryd.ntmps57
          go_wp2_with fail
          refine (hd _).mono ?_
          rintro e w1 ⟨rfl, rfl⟩
          go_simp
          go_wp2_with fail
          go_ret
          exact ⟨rfl, rfl⟩
      · have h2 : ¬ (1 : Int) < ((str l).size : Int) := by rw [hsz]; omega
        have hn' : natB l = true := by rw [hn, decide_eq_true (by omega : l.length = 1), Bool.or_true]
        rw [hn']
        clear hl hlen hone hz hn hn' hsz h1 hl0 hcd
        go_enter Tryd.func57, Tryd.ntmps57
        go_wp2_with fail
        refine (hd _).mono ?_
        rintro e w1 ⟨rfl, rfl⟩
        go_simp
        go_wp2_with fail
        go_ret
        exact ⟨rfl, rfl⟩

end Go.Proofs.YtkeglokokleonaaDoor
