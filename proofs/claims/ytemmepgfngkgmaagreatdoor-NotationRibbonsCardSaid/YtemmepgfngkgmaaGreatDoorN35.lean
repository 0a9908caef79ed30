/-
  The reference: Ints.
-/
import Derived.Test.YtemmepgfngkgmaaGreatDoorN34
namespace Go.Proofs.YtemmepgfngkgmaaGreatDoor
open Go.RowKit
set_option linter.unusedVariables false
set_option linter.unusedSimpArgs false

set_option maxRecDepth 100000 in
set_option maxHeartbeats 2000000 in
theorem r9_Ints (word : List UInt8) (l : List Int) (v : Value) (w : World) (hl : IntsR w v l) (hw : word.length ≤ 100) :
    Calls Tryz.prog 26 #[.string (str word), v] w fun e w' => e = .returned (limV (intsR word l)) ∧ Below w.heap.size w w' := by
  obtain ⟨Z, HZ⟩ : ∃ Z, Hid (Z = intsR word l) := ⟨_, rfl⟩
  rw [← HZ.out]
  have HL := hid hl
  obtain ⟨a, cap, rfl, hcap, hcm, _⟩ := hl
  go_enter Tryz.func26, Tryz.ntmps26
  go_wp2_with fail
  refine (r_Word word w (by omega)).mono ?_
  rintro e w1 ⟨rfl, hw1⟩
  have hB1 : Below w.heap.size w w1 := by rw [hw1]; exact Below.refl _ _
  clear hw1
  have HB1 := hid hB1
  clear hB1
  have hz := HZ.out
  unfold intsR at hz
  dsimp only
  by_cases he : wordErr word = 0
  · rw [if_neg (by omega)] at hz
    rw [he]
    by_cases hlen : 256 < l.length
    · rw [if_pos hlen] at hz
      have hlI : (256 : Int) < (l.length : Int) := by omega
      have HZ := hid hz
      clear hz he
      go_wp2_with fail
      refine bodyPost_ret (results_two rfl _ _ _) rfl ?_
      rw [HZ.out]
      exact ⟨rfl, HB1.out⟩
    · rw [if_neg hlen] at hz
      have hlI : ¬ (256 : Int) < (l.length : Int) := by omega
      have HZ := hid hz
      clear hz he
      go_wp2_with fail
      go_loopw [7, 8] (fun s i wr => ∃ k : Nat, k ≤ l.length ∧ i = .int .i64 k ∧ s = .string (str (word ++ intsT (l.take k))) ∧ (word ++ intsT (l.take k)).length ≤ 100 + 9 * k ∧ Hid ((l.take k).all chipB = true) ∧ Hid (Below w.heap.size w wr))
        (fun _ i _ => l.length - (intOf i).toNat)
      case atStart => exact ⟨0, Nat.zero_le _, rfl, by simp [intsT], by simp [intsT]; exact hw, rfl, HB1⟩
      case round =>
        obtain ⟨k, hkn, rfl, rfl, hsl, HC, HB⟩ := hrel
        by_cases hlt : k < l.length
        · have hlt' : (k : Int) < (l.length : Int) := by omega
          have hk0 : (0 : Int) ≤ (k : Int) := by omega
          obtain ⟨a', cap', ea, _, _, _, hc⟩ := HL.out.below HB.out
          injection ea with ea1 _ ea3
          subst ea1 ea3
          obtain ⟨b, off, rfl, hb, hc⟩ := hc.int (by omega)
          have c0 := hc k hlt
          have HSN := hid (intsT_snoc l k hlt)
          have HTK : Hid (∀ c, chipB (l[k]?.getD 0) = c → (l.take (k + 1)).all chipB = c) := fun c hc => by
            rw [(take_step l k hlt : l.take (k + 1) = l.take k ++ [l[k]?.getD 0]), List.all_append, HC.out, ← hc]
            simp
          clear hc
          generalize l[k]?.getD 0 = x at *
          have hx3 : Hid (chipB x = (decide (-1048576 ≤ x) && decide (x ≤ 1048576))) := rfl
          by_cases hxa : x < -1048576
          · have hcb : chipB x = false := by rw [hx3.out]; simp; omega
            have HZ2 : Hid (Z = (2, [])) := by
              have h := HZ.out
              have h2 : l.all chipB = false := by
                have h3 := HTK.out _ hcb
                have h4 : l.all chipB = ((l.take (k + 1)).all chipB && (l.drop (k + 1)).all chipB) := by rw [← List.all_append, List.take_append_drop]
                rw [h4, h3]; rfl
              rw [if_pos h2] at h
              exact h
            clear HTK hcb hx3 HZ
            go_wp2_with fail
            refine bodyPost_ret (results_two rfl _ _ _) rfl ?_
            rw [HZ2.out]
            exact ⟨rfl, HB.out⟩
          by_cases hxb : 1048576 < x
          · have hcb : chipB x = false := by rw [hx3.out]; simp; omega
            have HZ2 : Hid (Z = (2, [])) := by
              have h := HZ.out
              have h2 : l.all chipB = false := by
                have h3 := HTK.out _ hcb
                have h4 : l.all chipB = ((l.take (k + 1)).all chipB && (l.drop (k + 1)).all chipB) := by rw [← List.all_append, List.take_append_drop]
                rw [h4, h3]; rfl
              rw [if_pos h2] at h
              exact h
            clear HTK hcb hx3 HZ
            go_wp2_with fail
            refine bodyPost_ret (results_two rfl _ _ _) rfl ?_
            rw [HZ2.out]
            exact ⟨rfl, HB.out⟩
          have hcb : chipB x = true := by rw [hx3.out]; simp; omega
          obtain ⟨h8, hx0, hx1⟩ := itoa_chip hcb
          have HTK2 := hid (HTK.out _ hcb)
          have hdg := hid (fun w => r_dig x (by omega) (by omega) w)
          clear HTK hcb hx3
          go_wp2_with fail
          refine (hdg.out wr).mono ?_
          rintro e w3 ⟨rfl, hw3⟩
          have HB3 : Hid (Below w.heap.size w w3) := by rw [← hw3]; exact HB.out
          clear hw3
          have z1 := str_size (Lib.itoa x)
          have z2 := str_spc (Lib.itoa x)
          have z3 := str_size (word ++ intsT (l.take k))
          dsimp only
          go_wp2_with fail
          go_roundw
          case rel =>
            refine ⟨k + 1, by omega, by go_num, ?_, ?_, HTK2, HB3⟩
            · rw [str_add, HSN.out, List.append_assoc]
            · rw [HSN.out, ← List.append_assoc, List.length_append, List.length_cons]; omega
          case measure => simp [intOf]; omega
        · obtain rfl : k = l.length := by omega
          have HZ2 : Hid (Z = limR (word ++ intsT l)) := by
            have h := HZ.out
            have h2 := HC.out
            rw [List.take_length] at h2
            rw [if_neg (by rw [h2]; decide)] at h
            exact h
          rw [List.take_length] at *
          have hlt' : ¬ (l.length : Int) < (l.length : Int) := by omega
          clear HZ HC hsl
          go_wp2_with fail
          refine (r9_limited _ wr).mono ?_
          rintro e w2 ⟨rfl, rfl⟩
          unfold limV
          dsimp only
          go_wp2_with fail
          refine bodyPost_ret (results_two rfl _ _ _) rfl ?_
          rw [HZ2.out]
          exact ⟨rfl, HB.out⟩
  · rw [if_pos he] at hz
    have he1 : (wordErr word != 0) = true := by simpa using he
    have HZ := hid hz
    clear hz he
    go_wp2_with fail
    refine bodyPost_ret (results_two rfl _ _ _) rfl ?_
    rw [HZ.out]
    exact ⟨rfl, HB1.out⟩

end Go.Proofs.YtemmepgfngkgmaaGreatDoor
