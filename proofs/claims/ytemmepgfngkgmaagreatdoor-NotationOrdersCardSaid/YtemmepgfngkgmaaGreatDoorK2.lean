/-
  The reference's classes of bytes: Letter, Digit, Sign, letters, digits, Word, number, run, first: each returns what the plain text's function says, for every text. The reference's run and first: the first token of a text.
-/
import Derived.Test.YtemmepgfngkgmaaGreatDoorK1
namespace Go.Proofs.YtemmepgfngkgmaaGreatDoor
open Go.RowKit

set_option maxHeartbeats 1000000 in
theorem r_Letter (c : UInt8) (w : World) : Calls Tryz.prog 144 #[.int .u8 c.toNat] w fun e w' => e = .returned (.bool (isLet c)) ∧ w' = w := by
  by_cases h1 : 97 ≤ c.toNat
  · have h1' : (97 : Int) ≤ c.toNat := by omega
    go_enter Tryz.func144, Tryz.ntmps144
    go_wp2
    go_ret
    exact ⟨ret_bool (by simp [isLet, h1]; omega), rfl⟩
  · have h1' : ¬ (97 : Int) ≤ c.toNat := by omega
    go_enter Tryz.func144, Tryz.ntmps144
    go_wp2
    go_ret
    exact ⟨ret_bool (by simp [isLet, h1]), rfl⟩

set_option maxHeartbeats 1000000 in
theorem r_Digit (c : UInt8) (w : World) : Calls Tryz.prog 156 #[.int .u8 c.toNat] w fun e w' => e = .returned (.bool (isDig c)) ∧ w' = w := by
  by_cases h1 : 48 ≤ c.toNat
  · have h1' : (48 : Int) ≤ c.toNat := by omega
    go_enter Tryz.func156, Tryz.ntmps156
    go_wp2
    go_ret
    exact ⟨ret_bool (by simp [isDig, h1]; omega), rfl⟩
  · have h1' : ¬ (48 : Int) ≤ c.toNat := by omega
    go_enter Tryz.func156, Tryz.ntmps156
    go_wp2
    go_ret
    exact ⟨ret_bool (by simp [isDig, h1]), rfl⟩

theorem all_take (p : UInt8 → Bool) (l : List UInt8) (k : Nat) (hk : k < l.length) : (l.take (k + 1)).all p = ((l.take k).all p && p l[k]) := by
  rw [List.take_succ_eq_append_getElem hk, List.all_append]; simp
theorem all_stop (p : UInt8 → Bool) (l : List UInt8) (k : Nat) (hk : k < l.length) (h : p l[k] = false) : l.all p = false := by
  rw [List.all_eq_false]; exact ⟨l[k], List.getElem_mem hk, by simp [h]⟩

set_option maxHeartbeats 1000000 in
theorem r_Sign (c : UInt8) (w : World) : Calls Tryz.prog 154 #[.int .u8 c.toNat] w fun e w' => e = .returned (.bool (isSgn c)) ∧ w' = w := by
  have hsz : (str marks).size = 17 := rfl
  go_enter Tryz.func154, Tryz.ntmps154
  go_wp2
  rw [show ({ data := #[44, 59, 58, 40, 41, 123, 125, 91, 93, 61, 43, 45, 42, 47, 60, 62, 46] } : ByteArray) = str marks from rfl]
  go_loopw [4] (fun i wr => ∃ k : Nat, k ≤ 17 ∧ i = .int .i64 k ∧ (marks.take k).all (fun x => x != c) = true ∧ wr = w) (fun i _ => 17 - (intOf i).toNat)
  case atStart => exact ⟨0, by omega, rfl, rfl, rfl⟩
  case round =>
    obtain ⟨k, hk, rfl, ha, rfl⟩ := hrel
    by_cases hkt : k < 17
    · have hkt' : k < (str marks).size := hkt
      have hml : k < marks.length := hkt
      by_cases hc : marks[k] = c
      · have he : (((((str marks)[k]'hkt').toNat : Nat) : Int) == (c.toNat : Int)) = true := by rw [str_at, hc]; exact beq_self_eq_true _
        go_wp2_with fail
        go_ret
        exact ⟨ret_bool (by rw [isSgn, eq_comm, List.contains_iff_mem, ← hc]; exact List.getElem_mem hml), rfl⟩
      · have he : (((((str marks)[k]'hkt').toNat : Nat) : Int) == (c.toNat : Int)) = false := by
          rw [str_at, beq_eq_false_iff_ne]; intro h; exact hc (UInt8.toNat_inj.1 (Int.ofNat.inj h))
        have hx : (marks.take (k + 1)).all (fun x => x != c) = true := by rw [all_take _ marks k hml, ha]; simpa using hc
        go_wp2_with fail
        go_roundw
        case rel => exact ⟨k + 1, by omega, by go_num, hx, trivial⟩
        case measure => simp [intOf]; omega
    · have hkt' : ¬ k < (str marks).size := hkt
      have hal : marks.all (fun x => x != c) = true := by rw [List.take_of_length_le (by show 17 ≤ k; omega)] at ha; exact ha
      go_wp2_with fail
      go_ret
      refine ⟨ret_bool ?_, rfl⟩
      rw [isSgn, eq_comm, Bool.eq_false_iff, ne_eq, List.contains_iff_mem]
      intro hm
      have := List.all_eq_true.1 hal c hm
      simp at this

set_option maxHeartbeats 2000000 in
theorem r_letters (l : List UInt8) (w : World) (hl : l.length ≤ 140737488355328) : Calls Tryz.prog 117 #[.string (str l)] w fun e w' => e = .returned (.bool (!l.isEmpty && l.all isLet)) ∧ w' = w := by
  have hsz := str_size l
  go_enter Tryz.func117, Tryz.ntmps117
  go_wp2
  go_loopw [3] (fun i wr => ∃ k : Nat, k ≤ l.length ∧ i = .int .i64 k ∧ (l.take k).all isLet = true ∧ wr = w) (fun i _ => l.length - (intOf i).toNat)
  case atStart => exact ⟨0, Nat.zero_le _, rfl, rfl, rfl⟩
  case round =>
    obtain ⟨k, hk, rfl, ha, rfl⟩ := hrel
    by_cases hkt : k < l.length
    · have hkt' : k < (str l).size := by rw [hsz]; exact hkt
      have hd : ∀ w, Calls Tryz.prog 144 #[.int .u8 (str l)[k].toNat] w fun e w' => e = .returned (.bool (isLet l[k])) ∧ w' = w := fun w => r_Letter (str l)[k] w
      cases hp : isLet l[k] with
      | true =>
        have hx : (l.take (k + 1)).all isLet = true := by rw [all_take _ l k hkt, ha]; exact hp
        rw [hp] at hd
        go_wp2_with fail
        refine (hd _).mono ?_
        rintro e w1 ⟨rfl, rfl⟩
        go_simp
        go_wp2_with fail
        go_roundw
        case rel => exact ⟨k + 1, by omega, by go_num, hx, trivial⟩
        case measure => simp [intOf]; omega
      | false =>
        rw [hp] at hd
        go_wp2_with fail
        refine (hd _).mono ?_
        rintro e w1 ⟨rfl, rfl⟩
        go_simp
        go_wp2_with fail
        go_ret
        exact ⟨ret_bool (by rw [all_stop _ l k hkt hp, Bool.and_false]), rfl⟩
    · have hkt' : ¬ k < (str l).size := by rw [hsz]; exact hkt
      have hal : l.all isLet = true := by rw [List.take_of_length_le (by omega)] at ha; exact ha
      go_wp2_with fail
      go_ret
      refine ⟨ret_bool ?_, rfl⟩
      rw [hal, Bool.and_true]
      cases l <;> simp

set_option maxHeartbeats 2000000 in
theorem r_digits (l : List UInt8) (w : World) (hl : l.length ≤ 140737488355328) : Calls Tryz.prog 136 #[.string (str l)] w fun e w' => e = .returned (.bool (!l.isEmpty && l.all isDig)) ∧ w' = w := by
  have hsz := str_size l
  go_enter Tryz.func136, Tryz.ntmps136
  go_wp2
  go_loopw [3] (fun i wr => ∃ k : Nat, k ≤ l.length ∧ i = .int .i64 k ∧ (l.take k).all isDig = true ∧ wr = w) (fun i _ => l.length - (intOf i).toNat)
  case atStart => exact ⟨0, Nat.zero_le _, rfl, rfl, rfl⟩
  case round =>
    obtain ⟨k, hk, rfl, ha, rfl⟩ := hrel
    by_cases hkt : k < l.length
    · have hkt' : k < (str l).size := by rw [hsz]; exact hkt
      have hd : ∀ w, Calls Tryz.prog 156 #[.int .u8 (str l)[k].toNat] w fun e w' => e = .returned (.bool (isDig l[k])) ∧ w' = w := fun w => r_Digit (str l)[k] w
      cases hp : isDig l[k] with
      | true =>
        have hx : (l.take (k + 1)).all isDig = true := by rw [all_take _ l k hkt, ha]; exact hp
        rw [hp] at hd
        go_wp2_with fail
        refine (hd _).mono ?_
        rintro e w1 ⟨rfl, rfl⟩
        go_simp
        go_wp2_with fail
        go_roundw
        case rel => exact ⟨k + 1, by omega, by go_num, hx, trivial⟩
        case measure => simp [intOf]; omega
      | false =>
        rw [hp] at hd
        go_wp2_with fail
        refine (hd _).mono ?_
        rintro e w1 ⟨rfl, rfl⟩
        go_simp
        go_wp2_with fail
        go_ret
        exact ⟨ret_bool (by rw [all_stop _ l k hkt hp, Bool.and_false]), rfl⟩
    · have hkt' : ¬ k < (str l).size := by rw [hsz]; exact hkt
      have hal : l.all isDig = true := by rw [List.take_of_length_le (by omega)] at ha; exact ha
      go_wp2_with fail
      go_ret
      refine ⟨ret_bool ?_, rfl⟩
      rw [hal, Bool.and_true]
      cases l <;> simp

set_option maxHeartbeats 2000000 in
theorem r_Word (l : List UInt8) (w : World) (hl : l.length ≤ 140737488355328) : Calls Tryz.prog 76 #[.string (str l)] w fun e w' => e = .returned (.int .i64 (wordErr l)) ∧ w' = w := by
  have hsz := str_size l
  have hd := fun w => r_letters l w hl
  cases h1 : (!l.isEmpty && l.all isLet) with
  | false =>
    rw [h1] at hd
    have hz : wordErr l = 3 := by unfold wordErr; rw [if_pos]; revert h1; cases l.isEmpty <;> cases l.all isLet <;> simp
    rw [hz]
    go_enter Tryz.func76, Tryz.ntmps76
    go_wp2_with fail
    refine (hd _).mono ?_
    rintro e w1 ⟨rfl, rfl⟩
    go_simp
    go_wp2_with fail
    go_ret
    exact ⟨rfl, rfl⟩
  | true =>
    rw [h1] at hd
    have hz : wordErr l = if 24 < (str l).size then 19 else 0 := by
      unfold wordErr; rw [if_neg, hsz]; revert h1; cases l.isEmpty <;> cases l.all isLet <;> simp
    go_enter Tryz.func76, Tryz.ntmps76
    go_wp2_with fail
    refine (hd _).mono ?_
    rintro e w1 ⟨rfl, rfl⟩
    go_simp
    go_wp2_with fail
    · go_ret
      exact ⟨ret_int (by rw [hz, if_pos (by omega)]), rfl⟩
    · go_ret
      exact ⟨ret_int (by rw [hz, if_neg (by omega)]), rfl⟩

set_option maxHeartbeats 2000000 in
theorem r_number (l : List UInt8) (w : World) (hl : l.length ≤ 140737488355328) : Calls Tryz.prog 157 #[.string (str l)] w fun e w' => e = .returned (.int .i64 (numErr l)) ∧ w' = w := by
  have hsz := str_size l
  have hd := fun w => r_digits l w hl
  cases h1 : (!l.isEmpty && l.all isDig) with
  | false =>
    rw [h1] at hd
    have hz : numErr l = 3 := by unfold numErr; rw [if_pos]; revert h1; cases l.isEmpty <;> cases l.all isDig <;> simp
    rw [hz]
    go_enter Tryz.func157, Tryz.ntmps157
    go_wp2_with fail
    refine (hd _).mono ?_
    rintro e w1 ⟨rfl, rfl⟩
    go_simp
    go_wp2_with fail
    go_ret
    exact ⟨rfl, rfl⟩
  | true =>
    rw [h1] at hd
    have hz : numErr l = if 1024 < (str l).size then 11 else if natB l = true then 0 else 3 := by
      unfold numErr; rw [if_neg, hsz]; revert h1; cases l.isEmpty <;> cases l.all isDig <;> simp
    have hl0 : 0 < l.length := by cases l with
      | nil => simp at h1
      | cons c r => simp
    have hs0 : 0 < (str l).size := by rw [hsz]; exact hl0
    obtain ⟨c, hcd⟩ : ∃ c, c = (str l)[0]'hs0 := ⟨_, rfl⟩
    have hn : natB l = (decide (c ≠ 48) || decide (l.length = 1)) := by
      have h2 : l.all isDig = true := by revert h1; cases l.all isDig <;> simp
      rw [hcd, str_at]
      cases l with
      | nil => simp at hl0
      | cons d r => unfold natB; rw [h2]; simp
    by_cases hlen : 1024 < l.length
    · have h1024 : (1024 : Int) < ((str l).size : Int) := by rw [hsz]; omega
      rw [hz, if_pos (by rw [hsz]; exact hlen)]
      clear hl hlen hz hn hsz h1 hl0 hcd
      go_enter Tryz.func157, Tryz.ntmps157
      go_wp2_with fail
      refine (hd _).mono ?_
      rintro e w1 ⟨rfl, rfl⟩
      go_simp
      go_wp2_with fail
      go_ret
      exact ⟨rfl, rfl⟩
    · have h1024 : ¬ (1024 : Int) < ((str l).size : Int) := by rw [hsz]; omega
      rw [hz, if_neg (by rw [hsz]; exact hlen)]
      by_cases hone : 1 < l.length
      · have h2 : (1 : Int) < ((str l).size : Int) := by rw [hsz]; omega
        by_cases hc : c = 48
        · have hc' : (((str l)[0].toNat : Nat) : Int) = 48 := by rw [← hcd, hc]; rfl
          have hn' : natB l = false := by rw [hn, hc, decide_eq_false (by omega : ¬ l.length = 1)]; rfl
          rw [hn']
          clear hl hlen hone hz hn hn' hsz h1 hl0 hcd
          go_enter Tryz.func157, Tryz.ntmps157
          go_wp2_with fail
          refine (hd _).mono ?_
          rintro e w1 ⟨rfl, rfl⟩
          go_simp
          go_wp2_with fail
          go_ret
          exact ⟨rfl, rfl⟩
        · have hc' : ¬ (((str l)[0].toNat : Nat) : Int) = 48 := by
            rw [← hcd]; intro h; exact hc (UInt8.toNat_inj.1 (by have : (48 : UInt8).toNat = 48 := rfl; omega))
          have hn' : natB l = true := by rw [hn]; simp [hc]
          rw [hn']
          clear hl hlen hone hz hn hn' hsz h1 hl0 hcd
          go_enter Tryz.func157, Tryz.ntmps157
          go_wp2_with fail
          refine (hd _).mono ?_
          rintro e w1 ⟨rfl, rfl⟩
          go_simp
          go_wp2_with fail
          go_ret
          exact ⟨rfl, rfl⟩
      · have h2 : ¬ (1 : Int) < ((str l).size : Int) := by rw [hsz]; omega
        have hn' : natB l = true := by rw [hn, decide_eq_true (by omega : l.length = 1), Bool.or_true]
        rw [hn']
        clear hl hlen hone hz hn hn' hsz h1 hl0 hcd
        go_enter Tryz.func157, Tryz.ntmps157
        go_wp2_with fail
        refine (hd _).mono ?_
        rintro e w1 ⟨rfl, rfl⟩
        go_simp
        go_wp2_with fail
        go_ret
        exact ⟨rfl, rfl⟩

end Go.Proofs.YtemmepgfngkgmaaGreatDoor

namespace Go.Proofs.YtemmepgfngkgmaaGreatDoor
open Go.RowKit

theorem str_extract (l : List UInt8) (a b : Nat) : (str l).extract a b = str ((l.drop a).take (b - a)) := Lib.extract_eq (str l) a b

theorem wrapS (n : Int) (h : -9223372036854775808 ≤ n ∧ n ≤ 9223372036854775807) : RowKit.wrap64 n = n := by unfold RowKit.wrap64; omega

def predOf (c : UInt8) (d : UInt8) : Bool := if isLet c then isLet d else if isDig c then isDig d else false
theorem predOf_or (c d : UInt8) : (isLet c && isLet d || isDig c && isDig d) = predOf c d := by
  unfold predOf
  cases h : isLet c with
  | true => rw [let_dig c h]; simp
  | false => cases isDig c <;> simp

theorem tw_stop (p : UInt8 → Bool) (l : List UInt8) (k : Nat) (h1 : (l.take k).all p = true) (h2 : ∀ h : k < l.length, p l[k] = false) : l.takeWhile p = l.take k := by
  conv => lhs; rw [← List.take_append_drop k l]
  refine tw_app p _ _ h1 fun c s e => ?_
  have h3 := drop_cons' e
  have h4 := h2 h3.1
  have h5 := h3.2.1
  rw [List.getElem?_eq_getElem h3.1] at h5
  injection h5 with h5
  rw [← h5]; exact h4

set_option maxRecDepth 100000 in
set_option maxHeartbeats 4000000 in
theorem r_run (c : UInt8) (r : List UInt8) (w : World) (hl : (c :: r).length ≤ 140737488355328) : Calls Tryz.prog 155 #[.string (str (c :: r))] w fun e w' => e = .returned (.string (str ((c :: r).takeWhile (predOf c)))) ∧ w' = w := by
  generalize hcr : c :: r = l at *
  have HL := hid hl
  clear hl
  have hsz := str_size l
  have hl0 : 0 < l.length := by rw [← hcr]; simp
  have hs0 : 0 < (str l).size := by rw [hsz]; exact hl0
  have hc0 : (str l)[0]'hs0 = c := by rw [str_at]; simp [← hcr]
  go_enter Tryz.func155, Tryz.ntmps155
  go_wp2
  go_loopw [3] (fun i wr => ∃ k : Nat, k ≤ l.length ∧ i = .int .i64 k ∧ (l.take k).all (predOf c) = true ∧ wr = w) (fun i _ => l.length - (intOf i).toNat)
  case atStart => exact ⟨0, Nat.zero_le _, rfl, rfl, rfl⟩
  case round =>
    obtain ⟨k, hk, rfl, ha, rfl⟩ := hrel
    by_cases hkt : k < l.length
    · have hkt' : k < (str l).size := by rw [hsz]; exact hkt
      have hxk : l[k]'hkt = (str l)[k]'hkt' := rfl
      have hstep : predOf c ((str l)[k]'hkt') = true → (l.take (k + 1)).all (predOf c) = true := fun h => by rw [all_take _ l k hkt, ha, hxk, Bool.true_and]; exact h
      have hend : predOf c ((str l)[k]'hkt') = false → l.takeWhile (predOf c) = l.take k := fun h => tw_stop _ l k ha fun _ => by rw [hxk]; exact h
      have hp := predOf_or c ((str l)[k]'hkt')
      have hgo : (∃ b1 b2 b3 b4 : Bool, isLet ((str l)[0]'hs0) = b1 ∧ isLet ((str l)[k]'hkt') = b2 ∧ isDig ((str l)[0]'hs0) = b3 ∧ isDig ((str l)[k]'hkt') = b4 ∧ predOf c ((str l)[k]'hkt') = (b1 && b2 || b3 && b4) ∧
          (b1 = true ∧ b3 = false ∨ b1 = false)) := by
        refine ⟨_, _, _, _, rfl, rfl, rfl, rfl, ?_, ?_⟩
        · rw [hc0]; exact hp.symm
        · rw [hc0]
          cases h : isLet c with
          | true => exact .inl ⟨rfl, let_dig c h⟩
          | false => exact .inr rfl
      have hx : Hid (((str l).extract 0 k) = str (l.take k)) := by show _ = _; rw [str_extract]; simp
      obtain ⟨b1, b2, b3, b4, h1, h2, h3, h4, h5, h6⟩ := hgo
      rw [h5] at hstep hend
      clear h5 hp hxk ha hc0
      have HS := hid hstep
      have HE := hid hend
      clear hstep hend
      cases b1 with
      | true =>
        have hb3 : b3 = false := by rcases h6 with h | h; exact h.2; cases h
        subst hb3
        cases b2 with
        | true =>
          clear h6
          go_wp2_with (first | (go_at_call 144; refine (r_Letter _ _).mono ?_; rintro e w1 ⟨rfl, rfl⟩) | (go_at_call 156; refine (r_Digit _ _).mono ?_; rintro e w1 ⟨rfl, rfl⟩))
          rw [wrapS _ (by have := HL.out; omega)]
          go_roundw
          case rel => exact ⟨k + 1, by omega, by go_num, HS.out rfl, trivial⟩
          case measure => simp [intOf]; omega
        | false =>
          clear h6
          go_wp2_with (first | (go_at_call 144; refine (r_Letter _ _).mono ?_; rintro e w1 ⟨rfl, rfl⟩) | (go_at_call 156; refine (r_Digit _ _).mono ?_; rintro e w1 ⟨rfl, rfl⟩))
          go_ret
          exact ⟨by rw [hx.out, HE.out rfl]; rfl, rfl⟩
      | false =>
        cases b3 with
        | true =>
          cases b4 with
          | true =>
            clear h6
            go_wp2_with (first | (go_at_call 144; refine (r_Letter _ _).mono ?_; rintro e w1 ⟨rfl, rfl⟩) | (go_at_call 156; refine (r_Digit _ _).mono ?_; rintro e w1 ⟨rfl, rfl⟩))
            rw [wrapS _ (by have := HL.out; omega)]
            go_roundw
            case rel => exact ⟨k + 1, by omega, by go_num, HS.out rfl, trivial⟩
            case measure => simp [intOf]; omega
          | false =>
            clear h6
            go_wp2_with (first | (go_at_call 144; refine (r_Letter _ _).mono ?_; rintro e w1 ⟨rfl, rfl⟩) | (go_at_call 156; refine (r_Digit _ _).mono ?_; rintro e w1 ⟨rfl, rfl⟩))
            go_ret
            exact ⟨by rw [hx.out, HE.out rfl]; rfl, rfl⟩
        | false =>
          clear h6
          go_wp2_with (first | (go_at_call 144; refine (r_Letter _ _).mono ?_; rintro e w1 ⟨rfl, rfl⟩) | (go_at_call 156; refine (r_Digit _ _).mono ?_; rintro e w1 ⟨rfl, rfl⟩))
          go_ret
          exact ⟨by rw [hx.out, HE.out rfl]; rfl, rfl⟩
    · have hkt' : ¬ k < (str l).size := by rw [hsz]; exact hkt
      have hkl : k = l.length := by omega
      have hx : Hid (((str l).extract 0 k) = str (l.takeWhile (predOf c))) := by
        show _ = _
        rw [str_extract, tw_stop _ l k ha (fun h => absurd h hkt)]; simp
      clear ha hkl
      go_wp2_with fail
      go_ret
      exact ⟨by rw [hx.out]; rfl, rfl⟩

def refRun (c : UInt8) (r : List UInt8) : List UInt8 := (c :: r).takeWhile (predOf c)
theorem runOf_cons (c : UInt8) (r : List UInt8) : runOf (c :: r) = if isLet c then (c :: r).takeWhile isLet else if isDig c then (c :: r).takeWhile isDig else [c] := rfl
theorem refRun_eq (c : UInt8) (r : List UInt8) (h2 : isLet c = true ∨ isDig c = true) : refRun c r = runOf (c :: r) := by
  rw [runOf_cons]
  unfold refRun
  cases h1 : isLet c with
  | true => rw [if_pos rfl]; exact congrArg (List.takeWhile · (c :: r)) (funext fun d => by unfold predOf; rw [h1]; rfl)
  | false =>
    cases h3 : isDig c with
    | true => rw [if_neg (by decide), if_pos rfl]; exact congrArg (List.takeWhile · (c :: r)) (funext fun d => by unfold predOf; rw [h1, h3]; rfl)
    | false => rw [h1, h3] at h2; simp at h2

theorem results_cell_tmp {P : Program} {fn : Func} {k u : Nat} {t : TypeId} (h : fn.results = #[.cell k t, .tmp u]) {tmps : Array Value} {b : Nat} {v : Value} {w : World} (ht : tmps[k]?.getD undef = .pointer (some ⟨b, 0, none⟩))
    (hl : (loadVar t ⟨b, 0, none⟩).run P w = .ok v w) : (results fn tmps).run P w = .ok (.tuple #[v, tmps.getD u undef]) w := by
  simp [results, h, ht, asAddr, hl]
theorem load_tok {w : World} {b : Nat} {v0 v1 v2 : Value} (c0 : w.cell? ⟨b, 0, none⟩ = some v0) (c1 : w.cell? ⟨b, 1, none⟩ = some v1) (c2 : w.cell? ⟨b, 2, none⟩ = some v2) :
    (loadVar 134 ⟨b, 0, none⟩).run Tryz.prog w = .ok (.agg #[v0, v1, v2]) w := by
  go_simp
theorem cell_new3 (w : World) (v0 v1 v2 : Value) (T : TypeId) : (w.alloc (.cells #[v0, v1, v2] T)).cell? ⟨w.heap.size, 0, none⟩ = some v0 ∧ (w.alloc (.cells #[v0, v1, v2] T)).cell? ⟨w.heap.size, 1, none⟩ = some v1 ∧
    (w.alloc (.cells #[v0, v1, v2] T)).cell? ⟨w.heap.size, 2, none⟩ = some v2 := by
  refine ⟨?_, ?_, ?_⟩ <;> simp [World.cell?_alloc_new]

/-- What first answers. -/
def FirstPost (c : UInt8) (r : List UInt8) (at' : Nat) (w : World) (e : Ending) (w' : World) : Prop :=
  ∃ k t a, e = .returned (.tuple #[.agg #[.int .i64 k, .string (str t), .int .i64 a], .int .i64 (tokErr (kindOf c) (runOf (c :: r)))]) ∧
    (tokErr (kindOf c) (runOf (c :: r)) = 0 → k = kindOf c ∧ t = runOf (c :: r) ∧ a = at') ∧ Below w.heap.size w w'

theorem refRun_len (c : UInt8) (r : List UInt8) : (refRun c r).length ≤ (c :: r).length := by
  unfold refRun
  generalize c :: r = l
  induction l with
  | nil => simp
  | cons a l ih => by_cases h : predOf c a = true <;> simp [h] ; exact ih

set_option maxRecDepth 100000 in
set_option maxHeartbeats 4000000 in
theorem r_first (c : UInt8) (r : List UInt8) (at' : Nat) (w : World) (hl : (c :: r).length ≤ 140737488355328) :
    Calls Tryz.prog 130 #[.string (str (c :: r)), .int .i64 at'] w (FirstPost c r at' w) := by
  have hrun : ∀ w, Calls Tryz.prog 155 #[.string (str (c :: r))] w fun e w' => e = .returned (.string (str (refRun c r))) ∧ w' = w := fun w => r_run c r w hl
  have hrl := refRun_len c r
  have hword := fun w => r_Word (refRun c r) w (by omega)
  have hnum := fun w => r_number (refRun c r) w (by omega)
  have hs0 : 0 < (str (c :: r)).size := by rw [str_size]; simp
  have hs1 : 1 ≤ (str (c :: r)).size := hs0
  have hc0 : (str (c :: r))[0]'hs0 = c := rfl
  have HE : Hid ((str (c :: r)).extract 0 1 = str [c]) := by show _ = _; rw [str_extract]; simp
  clear hl hrl
  cases hsg : isSgn c with
  | true =>
    have hn := sgn_not c hsg
    have hz : tokErr (kindOf c) (runOf (c :: r)) = 0 ∧ kindOf c = 2 ∧ runOf (c :: r) = [c] := by
      have h1 : kindOf c = 2 := by simp [kindOf, hn.1, hn.2.1, hsg]
      have h2 : runOf (c :: r) = [c] := by rw [runOf_cons, hn.1, hn.2.1]; rfl
      refine ⟨?_, h1, h2⟩
      rw [h1, h2]; simp [tokErr, sgnErr, hsg]
    have hq : ∀ w, Calls Tryz.prog 154 #[.int .u8 ((str (c :: r))[0]'hs0).toNat] w fun e w' => e = .returned (.bool true) ∧ w' = w := fun w => by rw [hc0, ← hsg]; exact r_Sign c w
    obtain ⟨hz1, hz2, hz3⟩ := hz
    have HZ := hid hz1
    generalize hL : c :: r = l at *
    clear hrun hword hnum hn hsg hc0
    go_enter Tryz.func130, Tryz.ntmps130
    go_wp2_with fail
    refine (hq _).mono ?_
    rintro e w1 ⟨rfl, rfl⟩
    go_simp
    go_wp2_with fail
    have hc3 := cell_new3 w (.int .i64 2) (.string ((str l).extract 0 1)) (.int .i64 at') 134
    refine bodyPost_ret (results_cell_tmp rfl rfl (load_tok hc3.1 hc3.2.1 hc3.2.2)) rfl ⟨2, [c], at', ?_, ?_, by go_grown⟩
    · rw [HE.out, hL, HZ.out]; rfl
    · intro _; rw [hL]; exact ⟨hz2.symm, hz3.symm, rfl⟩
  | false =>
    have hq : ∀ w, Calls Tryz.prog 154 #[.int .u8 ((str (c :: r))[0]'hs0).toNat] w fun e w' => e = .returned (.bool false) ∧ w' = w := fun w => by rw [hc0, ← hsg]; exact r_Sign c w
    have hq2 : ∀ w, Calls Tryz.prog 144 #[.int .u8 ((str (c :: r))[0]'hs0).toNat] w fun e w' => e = .returned (.bool (isLet c)) ∧ w' = w := fun w => by rw [hc0]; exact r_Letter c w
    have hq3 : ∀ w, Calls Tryz.prog 156 #[.int .u8 ((str (c :: r))[0]'hs0).toNat] w fun e w' => e = .returned (.bool (isDig c)) ∧ w' = w := fun w => by rw [hc0]; exact r_Digit c w
    cases hlt : isLet c with
    | true =>
      rw [hlt] at hq2
      have hk : kindOf c = 0 := by simp [kindOf, hlt]
      have hz : tokErr (kindOf c) (runOf (c :: r)) = wordErr (refRun c r) := by rw [hk, refRun_eq c r (.inl hlt)]; rfl
      have hr := refRun_eq c r (.inl hlt)
      generalize refRun c r = t at *
      have HZ := hid hz
      have HK := hid hk
      have HRR := hid hr
      generalize hL : c :: r = l at *
      clear hnum hsg hc0 hz hk hr
      go_enter Tryz.func130, Tryz.ntmps130
      go_wp2_with fail
      refine (hq _).mono ?_
      rintro e w1 ⟨rfl, rfl⟩
      go_simp
      go_wp2_with fail
      refine (hrun _).mono ?_
      rintro e w1 ⟨rfl, rfl⟩
      go_simp
      go_wp2_with fail
      refine (hq2 _).mono ?_
      rintro e w1 ⟨rfl, rfl⟩
      go_simp
      go_wp2_with fail
      let S : World → Prop := fun w' => w' = ((w.alloc (.cells #[.int .i64 0, .string { data := #[] }, .int .i64 0] 134)).alloc (.cells #[.int .i64 0, .string (str t), .int .i64 at'] 134)).drew
      (refine wp_region_text 4 [0,1,2,3] S (by kernel_rfl) (by kernel_rfl) (by intro _ _ d _ _ h; cases d <;> exact h) ?hS ?_; rotate_left; simp only [List.map_cons, List.map_nil, List.getD_cons_zero, List.getD_cons_succ, List.drop_succ_cons, List.drop_zero])
      case hS => rfl
      (repeat ((refine' wpSeq_take rfl _ (by rfl) ?_ ?_; rotate_left; focus (intro w' hS; (try dsimp only at hS); subst hS; go_simp; (first | done | with_reducible rfl)); (try simp only [Act.put, List.setIfInBounds_toArray, List.set_cons_zero, List.set_cons_succ])); (try simp only [Act.put, List.setIfInBounds_toArray, List.set_cons_zero, List.set_cons_succ])))
      (refine wpSeq_call rfl (by rfl) (fun K hK => ?_); go_simp; refine ((hword _)).mono ?_; rintro e w1 ⟨rfl, rfl⟩; refine hK _ _ (rfl) ?_; clear hK K; (try simp only [Act.put, List.setIfInBounds_toArray, List.set_cons_zero, List.set_cons_succ]))
      refine wpSeq_nil ?_
      clear S
      go_wp2_with fail
      refine bodyPost_ret (results_cell_tmp rfl rfl (load_tok (v0 := .int .i64 0) (v1 := .string (str t)) (v2 := .int .i64 at') ?_ ?_ ?_)) rfl ⟨0, t, at', ?_, ?_, ?_⟩
      · go_simp
      · go_simp
      · go_simp
      · rw [hL, HZ.out]; rfl
      · intro _; rw [hL]; exact ⟨HK.out.symm, HRR.out, rfl⟩
      · go_grown
    | false =>
      rw [hlt] at hq2
      cases hdg : isDig c with
      | true =>
        rw [hdg] at hq3
        have hk : kindOf c = 1 := by simp [kindOf, hlt, hdg]
        have hz : tokErr (kindOf c) (runOf (c :: r)) = numErr (refRun c r) := by rw [hk, refRun_eq c r (.inr hdg)]; rfl
        have hr := refRun_eq c r (.inr hdg)
        generalize refRun c r = t at *
        have HZ := hid hz
        have HK := hid hk
        have HRR := hid hr
        generalize hL : c :: r = l at *
        clear hword hsg hc0 hz hk hr
        go_enter Tryz.func130, Tryz.ntmps130
        go_wp2_with fail
        refine (hq _).mono ?_
        rintro e w1 ⟨rfl, rfl⟩
        go_simp
        go_wp2_with fail
        refine (hrun _).mono ?_
        rintro e w1 ⟨rfl, rfl⟩
        go_simp
        go_wp2_with fail
        refine (hq2 _).mono ?_
        rintro e w1 ⟨rfl, rfl⟩
        go_simp
        go_wp2_with fail
        refine (hq3 _).mono ?_
        rintro e w1 ⟨rfl, rfl⟩
        go_simp
        go_wp2_with fail
        let S : World → Prop := fun w' => w' = ((w.alloc (.cells #[.int .i64 0, .string { data := #[] }, .int .i64 0] 134)).alloc (.cells #[.int .i64 1, .string (str t), .int .i64 at'] 134)).drew
        (refine wp_region_text 4 [0,1,2,3] S (by kernel_rfl) (by kernel_rfl) (by intro _ _ d _ _ h; cases d <;> exact h) ?hS ?_; rotate_left; simp only [List.map_cons, List.map_nil, List.getD_cons_zero, List.getD_cons_succ, List.drop_succ_cons, List.drop_zero])
        case hS => rfl
        (repeat ((refine' wpSeq_take rfl _ (by rfl) ?_ ?_; rotate_left; focus (intro w' hS; (try dsimp only at hS); subst hS; go_simp; (first | done | with_reducible rfl)); (try simp only [Act.put, List.setIfInBounds_toArray, List.set_cons_zero, List.set_cons_succ])); (try simp only [Act.put, List.setIfInBounds_toArray, List.set_cons_zero, List.set_cons_succ])))
        (refine wpSeq_call rfl (by rfl) (fun K hK => ?_); go_simp; refine ((hnum _)).mono ?_; rintro e w1 ⟨rfl, rfl⟩; refine hK _ _ (rfl) ?_; clear hK K; (try simp only [Act.put, List.setIfInBounds_toArray, List.set_cons_zero, List.set_cons_succ]))
        refine wpSeq_nil ?_
        clear S
        go_wp2_with fail
        refine bodyPost_ret (results_cell_tmp rfl rfl (load_tok (v0 := .int .i64 1) (v1 := .string (str t)) (v2 := .int .i64 at') ?_ ?_ ?_)) rfl ⟨1, t, at', ?_, ?_, ?_⟩
        · go_simp
        · go_simp
        · go_simp
        · rw [hL, HZ.out]; rfl
        · intro _; rw [hL]; exact ⟨HK.out.symm, HRR.out, rfl⟩
        · go_grown
      | false =>
        rw [hdg] at hq3
        have hk : kindOf c = 4 := by simp [kindOf, hlt, hdg, hsg]
        have hz : tokErr (kindOf c) (runOf (c :: r)) = 4 := by rw [hk]; rfl
        have HZ := hid hz
        generalize refRun c r = t at *
        generalize hL : c :: r = l at *
        clear hword hnum hsg hc0 hz hk
        go_enter Tryz.func130, Tryz.ntmps130
        go_wp2_with fail
        refine (hq _).mono ?_
        rintro e w1 ⟨rfl, rfl⟩
        go_simp
        go_wp2_with fail
        refine (hrun _).mono ?_
        rintro e w1 ⟨rfl, rfl⟩
        go_simp
        go_wp2_with fail
        refine (hq2 _).mono ?_
        rintro e w1 ⟨rfl, rfl⟩
        go_simp
        go_wp2_with fail
        refine (hq3 _).mono ?_
        rintro e w1 ⟨rfl, rfl⟩
        go_simp
        go_wp2_with fail
        refine bodyPost_ret (results_cell_tmp rfl rfl (load_tok (v0 := .int .i64 0) (v1 := .string (str [])) (v2 := .int .i64 0) ?_ ?_ ?_)) rfl ⟨0, [], 0, ?_, ?_, ?_⟩
        · go_simp
        · go_simp; rfl
        · go_simp
        · rw [hL, HZ.out]; rfl
        · intro h; rw [hL, HZ.out] at h; exact absurd h (by decide)
        · go_grown

end Go.Proofs.YtemmepgfngkgmaaGreatDoor
