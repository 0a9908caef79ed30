/-
  The reference's plain, form, Joined, Join.
-/
import Derived.Test.YtkeglokokleonaaDoorK3
import Derived.Test.YtkeglokokleonaaDoorK15
namespace Go.Proofs.YtkeglokokleonaaDoor
open Go.RowKit

set_option maxRecDepth 100000 in
set_option maxHeartbeats 2000000 in
theorem r_plain (t : Tok) (w : World) : Calls Tryd.prog 58 #[.agg #[.int .i64 t.kind, .string (str t.text), .int .i64 t.pos]] w fun e w' => e = .returned (.bool (plainT t)) ∧ Below w.heap.size w w' := by
  obtain ⟨kd, tx, ps⟩ := t
  show Calls Tryd.prog 58 #[.agg #[.int .i64 kd, .string (str tx), .int .i64 ps]] w _
  by_cases h0 : kd = 0
  · subst h0
    go_enter Tryd.func58, Tryd.ntmps58
    go_wp2_with fail
    go_ret
    exact ⟨rfl, by go_grown⟩
  · by_cases h1 : kd = 1
    · subst h1
      go_enter Tryd.func58, Tryd.ntmps58
      go_wp2_with fail
      go_ret
      exact ⟨rfl, by go_grown⟩
    · have hz : plainT ⟨kd, tx, ps⟩ = false := by simp [plainT, h0, h1]
      have e0 : (kd == 0) = false := by simpa using h0
      have e1 : (kd == 1) = false := by simpa using h1
      rw [hz]
      clear h0 h1 hz
      go_enter Tryd.func58, Tryd.ntmps58
      go_wp2_with fail
      go_ret
      exact ⟨rfl, by go_grown⟩

theorem sgn_one (c : UInt8) : sgnErr [c] = if isSgn c then 0 else 3 := rfl

set_option maxRecDepth 100000 in
set_option maxHeartbeats 4000000 in
theorem r_form (t : Tok) (i n : Nat) (w : World) (hl : t.text.length ≤ 140737488355328) (hn : n ≤ 4097) :
    Calls Tryd.prog 32 #[.agg #[.int .i64 t.kind, .string (str t.text), .int .i64 t.pos], .int .i64 i, .int .i64 n] w fun e w' => e = .returned (.int .i64 (formErr t (decide (i + 1 = n)))) ∧ Below w.heap.size w w' := by
  obtain ⟨kd, tx, ps⟩ := t
  show Calls Tryd.prog 32 #[.agg #[.int .i64 kd, .string (str tx), .int .i64 ps], .int .i64 i, .int .i64 n] w _
  have hl' : tx.length ≤ 140737488355328 := hl
  have HW := hid (fun w => r_Word tx w hl')
  have HNN := hid (fun w => r_number tx w hl')
  by_cases q0 : kd = 0
  · subst q0
    have hz : formErr ⟨0, tx, ps⟩ (decide (i + 1 = n)) = if wordErr tx = 0 then 0 else 3 := by unfold formErr; simp [tokErr]
    rw [hz]
    clear hz hl hl' hn
    generalize wordErr tx = er at *
    by_cases he : er = 0
    · subst he
      go_enter Tryd.func32, Tryd.ntmps32
      go_wp2_with fail
      refine (HW.out _).mono ?_
      rintro e w1 ⟨rfl, rfl⟩
      go_simp
      go_wp2_with fail
      go_ret
      exact ⟨rfl, by go_grown⟩
    · rw [if_neg he]
      go_enter Tryd.func32, Tryd.ntmps32
      go_wp2_with fail
      refine (HW.out _).mono ?_
      rintro e w1 ⟨rfl, rfl⟩
      go_simp
      go_wp2_with fail
      go_ret
      exact ⟨rfl, by go_grown⟩
  · by_cases q1 : kd = 1
    · subst q1
      have hz : formErr ⟨1, tx, ps⟩ (decide (i + 1 = n)) = if numErr tx = 0 then 0 else 3 := by unfold formErr; simp [tokErr]
      rw [hz]
      clear hz hl hl' hn q0
      generalize numErr tx = er at *
      by_cases he : er = 0
      · subst he
        go_enter Tryd.func32, Tryd.ntmps32
        go_wp2_with fail
        refine (HNN.out _).mono ?_
        rintro e w1 ⟨rfl, rfl⟩
        go_simp
        go_wp2_with fail
        go_ret
        exact ⟨rfl, by go_grown⟩
      · rw [if_neg he]
        go_enter Tryd.func32, Tryd.ntmps32
        go_wp2_with fail
        refine (HNN.out _).mono ?_
        rintro e w1 ⟨rfl, rfl⟩
        go_simp
        go_wp2_with fail
        go_ret
        exact ⟨rfl, by go_grown⟩
    · by_cases q2 : kd = 2
      · subst q2
        have hz : formErr ⟨2, tx, ps⟩ (decide (i + 1 = n)) = if sgnErr tx = 0 then 0 else 3 := by unfold formErr; simp [tokErr]
        rw [hz]
        clear hz hl hl' hn q0 q1 HW HNN
        match tx with
        | [] =>
          go_enter Tryd.func32, Tryd.ntmps32
          go_wp2_with fail
          go_ret
          exact ⟨rfl, by go_grown⟩
        | c :: d :: r =>
          have hs : (((str (c :: d :: r)).size : Int) != 1) = true := by rw [str_size]; simp; omega
          have hz : (if sgnErr (c :: d :: r) = 0 then (0 : Int) else 3) = 3 := rfl
          rw [hz]
          generalize c :: d :: r = l at *
          clear hz
          go_enter Tryd.func32, Tryd.ntmps32
          go_wp2_with fail
          go_ret
          exact ⟨rfl, by go_grown⟩
        | [c] =>
          have hsz : (str [c]).size = 1 := rfl
          have hsg : ∀ w, Calls Tryd.prog 52 #[.int .u8 ((str [c])[0]'(by rw [hsz]; omega)).toNat] w fun e w' => e = .returned (.bool (isSgn c)) ∧ w' = w := fun w => r_Sign c w
          have HSG := hid hsg
          rw [sgn_one]
          clear hsg
          cases hc : isSgn c with
          | true =>
            rw [hc] at HSG
            go_enter Tryd.func32, Tryd.ntmps32
            go_wp2_with fail
            refine (HSG.out _).mono ?_
            rintro e w1 ⟨rfl, rfl⟩
            go_simp
            go_wp2_with fail
            go_ret
            exact ⟨rfl, by go_grown⟩
          | false =>
            rw [hc] at HSG
            go_enter Tryd.func32, Tryd.ntmps32
            go_wp2_with fail
            refine (HSG.out _).mono ?_
            rintro e w1 ⟨rfl, rfl⟩
            go_simp
            go_wp2_with fail
            go_ret
            exact ⟨rfl, by go_grown⟩
      · by_cases q3 : kd = 3
        · subst q3
          clear HW HNN q0 q1 q2 hl hl'
          by_cases hin : i + 1 = n
          · rw [decide_eq_true hin]
            have hlast : ((i : Int) != (n : Int) - 1) = false := by simp; omega
            cases he : tx.isEmpty with
            | true =>
              have e0 := isE_str tx he
              have hz : formErr ⟨3, tx, ps⟩ true = 0 := by unfold formErr; simp [List.isEmpty_iff.1 he]
              rw [hz]
              clear hz he
              go_enter Tryd.func32, Tryd.ntmps32
              go_wp2_with fail
              go_ret
              exact ⟨rfl, by go_grown⟩
            | false =>
              have e0 := isE_str tx he
              have hz : formErr ⟨3, tx, ps⟩ true = 3 := by
                unfold formErr
                have : tx ≠ [] := fun h => by rw [h] at he; simp at he
                simp [this]
              rw [hz]
              clear hz he
              go_enter Tryd.func32, Tryd.ntmps32
              go_wp2_with fail
              go_ret
              exact ⟨rfl, by go_grown⟩
          · rw [decide_eq_false hin]
            have hlast : ((i : Int) != (n : Int) - 1) = true := by simp; omega
            have hz : formErr ⟨3, tx, ps⟩ false = 9 := rfl
            rw [hz]
            clear hz
            go_enter Tryd.func32, Tryd.ntmps32
            go_wp2_with fail
            go_ret
            exact ⟨rfl, by go_grown⟩
        · have hz : formErr ⟨kd, tx, ps⟩ (decide (i + 1 = n)) = 1 := by unfold formErr; simp [q0, q1, q2, q3]
          rw [hz]
          have e0 : (kd == 0) = false := by simpa using q0
          have e1 : (kd == 1) = false := by simpa using q1
          have e2 : (kd == 2) = false := by simpa using q2
          have e3 : (kd == 3) = false := by simpa using q3
          clear hz q0 q1 q2 q3 HW HNN hl hl' hn
          go_enter Tryd.func32, Tryd.ntmps32
          go_wp2_with fail
          go_ret
          exact ⟨rfl, by go_grown⟩

end Go.Proofs.YtkeglokokleonaaDoor
