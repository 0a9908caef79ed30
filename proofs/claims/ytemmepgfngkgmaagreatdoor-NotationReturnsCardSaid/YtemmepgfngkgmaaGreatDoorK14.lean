/-
  lexer.form: the error of a token, which is the last one or not.
-/
import Derived.Test.YtemmepgfngkgmaaGreatDoorK6
import Derived.Test.YtemmepgfngkgmaaGreatDoorKB
namespace Go.Proofs.YtemmepgfngkgmaaGreatDoor
open Go.RowKit

set_option maxRecDepth 100000 in
set_option maxHeartbeats 4000000 in
theorem p_form (t : Tok) (last : Bool) (w : World) (hl : t.text.length ≤ 9223372036854775807) :
    Calls Tryz.prog 122 #[.agg #[.int .i64 t.kind, .string (str t.text), .int .i64 t.pos], .bool last] w fun e w' => e = .returned (.int .i64 (formErr t last)) ∧ Below w.heap.size w w' := by
  obtain ⟨kd, tx, ps⟩ := t
  show Calls Tryz.prog 122 #[.agg #[.int .i64 kd, .string (str tx), .int .i64 ps], .bool last] w _
  have hl' : tx.length ≤ 9223372036854775807 := hl
  by_cases h3 : kd = 3
  · subst h3
    cases last with
    | false =>
      go_enter Tryz.func122, Tryz.ntmps122
      go_wp2_with fail
      go_ret
      exact ⟨rfl, by go_grown⟩
    | true =>
      cases he : tx.isEmpty with
      | true =>
        have e0 := isE_str tx he
        have hz : formErr ⟨3, tx, ps⟩ true = 0 := by unfold formErr; simp [List.isEmpty_iff.1 he]
        rw [hz]
        go_enter Tryz.func122, Tryz.ntmps122
        go_wp2_with fail
        go_ret
        exact ⟨rfl, by go_grown⟩
      | false =>
        have e0 := isE_str tx he
        have hz : formErr ⟨3, tx, ps⟩ true = 3 := by
          unfold formErr
          have : tx ≠ [] := fun h => by rw [h] at he; simp at he
          simp [this]
        rw [hz]
        go_enter Tryz.func122, Tryz.ntmps122
        go_wp2_with fail
        go_ret
        exact ⟨rfl, by go_grown⟩
  · have hW := fun w => p_Word tx w hl'
    have hN := fun w => p_number tx w hl'
    have hS := fun w => p_sign tx w
    have hz : formErr ⟨kd, tx, ps⟩ last = if kd = 0 then (if wordErr tx = 0 then 0 else 3) else if kd = 1 then (if numErr tx = 0 then 0 else 3) else if kd = 2 then (if sgnErr tx = 0 then 0 else 3) else 1 := by
      unfold formErr
      simp only
      rw [if_neg h3]
      by_cases q0 : kd = 0
      · subst q0; simp [tokErr]
      · by_cases q1 : kd = 1
        · subst q1; simp [tokErr]
        · by_cases q2 : kd = 2
          · subst q2; simp [tokErr]
          · simp [q0, q1, q2]
    rw [hz]
    clear hl hl' hz
    generalize wordErr tx = we at *
    generalize numErr tx = ne at *
    generalize sgnErr tx = se at *
    obtain ⟨z, hzz⟩ : ∃ z : Int, z = (if kd = 0 then (if we = 0 then 0 else 3) else if kd = 1 then (if ne = 0 then 0 else 3) else if kd = 2 then (if se = 0 then 0 else 3) else 1) := ⟨_, rfl⟩
    rw [← hzz]
    have HZ := hid hzz
    clear hzz
    have HW := hid hW
    have HN := hid hN
    have HS := hid hS
    clear hW hN hS
    go_enter Tryz.func122, Tryz.ntmps122
    go_wp2_with fail
    refine (p_classes _).mono ?_
    rintro e w0 ⟨rfl, hB0⟩
    have hB00 : Below w.heap.size w w0 := ((Below.refl _ _).alloc (Nat.le_refl _) _).trans (hB0.mono (by simp))
    have hx0 : w0.cell? ⟨w.heap.size, 0, none⟩ = some (.int .i64 kd) := ((bcellB hB0).1 _ _ (by simp)).trans (cell_new3 w _ _ _ _).1
    have hx1 : w0.cell? ⟨w.heap.size, 1, none⟩ = some (.string (str tx)) := ((bcellB hB0).1 _ _ (by simp)).trans (cell_new3 w _ _ _ _).2.1
    have hw0 : w.heap.size < w0.heap.size := by have := hB0.size; simp at this; omega
    clear hB0
    go_simp
    go_wp2_with fail
    go_loopw [18] (fun i wr => ∃ k : Nat, k ≤ 3 ∧ i = .int .i64 k ∧ (0 < k → kd ≠ 0) ∧ (1 < k → kd ≠ 1) ∧ (2 < k → kd ≠ 2) ∧ Below w.heap.size w wr ∧ Below w0.heap.size w0 wr) (fun i _ => 3 - (intOf i).toNat)
    case atStart => exact ⟨0, by omega, rfl, by omega, by omega, by omega, hB00, Below.refl _ _⟩
    case round =>
      clear hB00
      obtain ⟨k, hk, rfl, k0, k1, k2, hB, hBB⟩ := hrel
      have hy0 := ((bcellB hBB).1 _ 0 hw0).trans hx0
      have hy1 := ((bcellB hBB).1 _ 1 hw0).trans hx1
      have hwr : w.heap.size < wr.heap.size := Nat.lt_of_lt_of_le hw0 hBB.size
      clear hx0 hx1
      match k, hk with
      | 0, _ =>
        clear k0 k1 k2
        have i0 := idx_cls0
        have hB2 : Below w.heap.size w (wr.alloc (.cells #[.string (str letters), .int .i64 0, .func (.func 74) #[] #[], .bool true] 217)) := hB.alloc hB.size _
        have hBB2 : Below w0.heap.size w0 (wr.alloc (.cells #[.string (str letters), .int .i64 0, .func (.func 74) #[] #[], .bool true] 217)) := hBB.alloc hBB.size _
        by_cases q : kd = 0
        · subst q
          by_cases hev : we = 0
          · have HEV := hid hev
            subst hev
            go_wp2_with fail
            refine (HW.out _).mono ?_
            rintro e w3 ⟨rfl, hB3⟩
            go_simp
            go_wp2_with fail
            go_ret
            exact ⟨by rw [HZ.out]; simp, hB2.trans (hB3.mono hB2.size)⟩
          · go_wp2_with fail
            refine (HW.out _).mono ?_
            rintro e w3 ⟨rfl, hB3⟩
            go_simp
            go_wp2_with fail
            go_ret
            exact ⟨by rw [HZ.out]; simp [hev], hB2.trans (hB3.mono hB2.size)⟩
        · have hq : ((0 : Int) == kd) = false := by simp; omega
          have HQ := hid q
          clear q
          go_wp2_with fail
          have q := HQ.out
          go_roundw
          case rel => exact ⟨1, by omega, rfl, fun _ => q, by omega, by omega, hB2, hBB2⟩
          case measure => simp [intOf]
      | 1, _ =>
        have a0 := k0 (by omega)
        clear k0 k1 k2
        have i0 := idx_cls1
        have hB2 : Below w.heap.size w (wr.alloc (.cells #[.string (str figures), .int .i64 1, .func (.func 170) #[] #[], .bool true] 217)) := hB.alloc hB.size _
        have hBB2 : Below w0.heap.size w0 (wr.alloc (.cells #[.string (str figures), .int .i64 1, .func (.func 170) #[] #[], .bool true] 217)) := hBB.alloc hBB.size _
        by_cases q : kd = 1
        · subst q
          by_cases hev : ne = 0
          · have HEV := hid hev
            subst hev
            go_wp2_with fail
            refine (HN.out _).mono ?_
            rintro e w3 ⟨rfl, hB3⟩
            go_simp
            go_wp2_with fail
            go_ret
            exact ⟨by rw [HZ.out]; simp, hB2.trans (hB3.mono hB2.size)⟩
          · go_wp2_with fail
            refine (HN.out _).mono ?_
            rintro e w3 ⟨rfl, hB3⟩
            go_simp
            go_wp2_with fail
            go_ret
            exact ⟨by rw [HZ.out]; simp [hev], hB2.trans (hB3.mono hB2.size)⟩
        · have hq : ((1 : Int) == kd) = false := by simp; omega
          have HQ := hid q
          clear q
          go_wp2_with fail
          have q := HQ.out
          go_roundw
          case rel => exact ⟨2, by omega, rfl, fun _ => a0, fun _ => q, by omega, hB2, hBB2⟩
          case measure => simp [intOf]
      | 2, _ =>
        have a0 := k0 (by omega)
        have a1 := k1 (by omega)
        clear k0 k1 k2
        have i0 := idx_cls2
        have hB2 : Below w.heap.size w (wr.alloc (.cells #[.string (str marks), .int .i64 2, .func (.func 171) #[] #[], .bool false] 217)) := hB.alloc hB.size _
        have hBB2 : Below w0.heap.size w0 (wr.alloc (.cells #[.string (str marks), .int .i64 2, .func (.func 171) #[] #[], .bool false] 217)) := hBB.alloc hBB.size _
        by_cases q : kd = 2
        · subst q
          by_cases hev : se = 0
          · have HEV := hid hev
            subst hev
            go_wp2_with fail
            refine (HS.out _).mono ?_
            rintro e w3 ⟨rfl, hB3⟩
            go_simp
            go_wp2_with fail
            go_ret
            exact ⟨by rw [HZ.out]; simp, hB2.trans (hB3.mono hB2.size)⟩
          · go_wp2_with fail
            refine (HS.out _).mono ?_
            rintro e w3 ⟨rfl, hB3⟩
            go_simp
            go_wp2_with fail
            go_ret
            exact ⟨by rw [HZ.out]; simp [hev], hB2.trans (hB3.mono hB2.size)⟩
        · have hq : ((2 : Int) == kd) = false := by simp; omega
          have HQ := hid q
          clear q
          go_wp2_with fail
          have q := HQ.out
          go_roundw
          case rel => exact ⟨3, by omega, rfl, fun _ => a0, fun _ => a1, fun _ => q, hB2, hBB2⟩
          case measure => simp [intOf]
      | 3, _ =>
        have a0 := k0 (by omega)
        have a1 := k1 (by omega)
        have a2 := k2 (by omega)
        have HR : Hid (z = 1) := by
          show _ = _; rw [HZ.out, if_neg a0, if_neg a1, if_neg a2]
        clear k0 k1 k2 a0 a1 a2 HZ
        go_wp2_with fail
        go_ret
        exact ⟨by rw [HR.out]; rfl, hB⟩

end Go.Proofs.YtemmepgfngkgmaaGreatDoor
