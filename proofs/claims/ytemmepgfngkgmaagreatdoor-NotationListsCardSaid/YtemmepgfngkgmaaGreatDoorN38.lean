/-
  The walk of NotationLists.
-/
import Derived.Test.YtemmepgfngkgmaaGreatDoorN37
import Derived.Test.YtemmepgfngkgmaaGreatDoorN31
namespace Go.Proofs.YtemmepgfngkgmaaGreatDoor
open Go.RowKit
set_option linter.unusedVariables false
set_option linter.unusedSimpArgs false

def RetB (w : World) (e : Ending) (w' : World) : Prop := ∃ b, e = .returned (.bool b) ∧ w = w'
theorem r9_FewText (t : List UInt8) (w : World) : Calls Tryz.prog 15 #[.string (str t)] w (RetB w) := by
  have hs := str_size t
  by_cases h1 : t.length ≤ 1500
  · have h' : ((str t).size : Int) ≤ 1500 := by omega
    go_enter Tryz.func15, Tryz.ntmps15
    go_wp2_with fail
    go_ret
    exact ⟨_, rfl, rfl⟩
  · have h' : ¬ ((str t).size : Int) ≤ 1500 := by omega
    by_cases h2 : 4096 < t.length
    · have h2' : (4096 : Int) < ((str t).size : Int) := by omega
      go_enter Tryz.func15, Tryz.ntmps15
      go_wp2_with fail
      go_ret
      exact ⟨_, rfl, rfl⟩
    · have h2' : ¬ (4096 : Int) < ((str t).size : Int) := by omega
      go_enter Tryz.func15, Tryz.ntmps15
      go_wp2_with fail
      go_ret
      exact ⟨_, rfl, rfl⟩
/-- What ReadInts hands back, in one form. -/
def rdW (z : (Int × Int) ⊕ (List UInt8 × List Int)) : List UInt8 × List Int × Int × Int := match z with | .inl x => ([], [], x.1, x.2) | .inr p => (p.1, p.2, 0, 0)
theorem RetInts.one {w : World} {z : (Int × Int) ⊕ (List UInt8 × List Int)} {e : Ending} {w' : World} (h : RetInts w z e w') :
    ∃ v, e = .returned (.tuple #[.string (str (rdW z).1), v, .int .i64 (rdW z).2.2.1, .int .i64 (rdW z).2.2.2]) ∧ IntsR w' v (rdW z).2.1 ∧ Below w.heap.size w w' := by
  obtain ⟨h1, h2⟩ := h
  cases z with
  | inl x => exact ⟨.slice none 0 0, h1, ⟨none, 0, rfl, Nat.le_refl _, by omega, by show 0 * 8 ≤ _; omega, .inl rfl⟩, h2⟩
  | inr p => obtain ⟨v, h3, h4⟩ := h1; exact ⟨v, h3, h4, h2⟩

set_option maxRecDepth 100000 in
set_option maxHeartbeats 4000000 in
theorem l_Lists (word : List UInt8) (l : List Int) (text : List UInt8) (v : Value) (w : World) (hE : Env w) (hl : IntsR w v l) :
    Calls Tryz.prog 6 #[.string (str word), v, .string (str text)] w fun e w' => e = .returned (.bool true) ∧ Below w.heap.size w w' := by
  have HE := hid hE
  have HL := hid hl
  obtain ⟨a, cap, rfl, _⟩ := hl
  have zw := str_size word
  clear hE
  have HA := hid (l_awake w HE.out)
  by_cases hw : 100 < word.length
  · have hw' : (100 : Int) < ((str word).size : Int) := by omega
    go_enter Tryz.func6, Tryz.ntmps6
    go_wp2_with fail
    refine HA.out.mono ?_
    rintro e w1 ⟨rfl, hB⟩
    dsimp only
    go_wp2_with fail
    go_ret
    exact ⟨rfl, hB⟩
  have hw' : ¬ (100 : Int) < ((str word).size : Int) := by omega
  by_cases hln : 512 < l.length
  · have hln' : (512 : Int) < (l.length : Int) := by omega
    go_enter Tryz.func6, Tryz.ntmps6
    go_wp2_with fail
    refine HA.out.mono ?_
    rintro e w1 ⟨rfl, hB⟩
    dsimp only
    go_wp2_with fail
    go_ret
    exact ⟨rfl, hB⟩
  have hln' : ¬ (512 : Int) < (l.length : Int) := by omega
  have HF := hid (r9_FewText text w)
  have HN := hid (n_Ints word l (.slice a l.length cap) w HE.out HL.out (by omega))
  have HR := hid (fun w h => r9_Ints word l (.slice a l.length cap) w h (by omega))
  have HN2 := hid (fun w h => n_ReadInts text w h)
  have HR2 := hid (fun w => r9_ReadInts text w)
  generalize intsR word l = z at *
  generalize readIntsR text = y at *
  obtain ⟨z1, z2⟩ := z
  unfold limV at HN HR
  dsimp only at HN HR
  have q1 : ((str z2).toList == (str z2).toList) = true := beq_self_eq_true _
  have q2 : (z1 != z1) = false := by simp
  go_enter Tryz.func6, Tryz.ntmps6
  go_wp2_with fail
  refine HF.out.mono ?_
  rintro e w1 ⟨bt, rfl, rfl⟩
  dsimp only
  cases bt with
  | false =>
    go_wp2_with fail
    refine HA.out.mono ?_
    rintro e w1 ⟨rfl, hB⟩
    dsimp only
    go_wp2_with fail
    go_ret
    exact ⟨rfl, hB⟩
  | true =>
    go_wp2_with fail
    refine HN.out.mono ?_
    rintro e w1 ⟨rfl, hB⟩
    have HB1 := hid hB
    clear hB
    dsimp only
    go_wp2_with fail
    refine (HR.out w1 (HL.out.below HB1.out)).mono ?_
    rintro e w2 ⟨rfl, hB⟩
    have HB2 := hid (up HB1.out hB)
    clear hB HB1
    dsimp only
    go_wp2_with fail
    refine (HN2.out w2 (HE.out.below HB2.out)).mono ?_
    intro e w3 h3
    obtain ⟨v3, rfl, hv3, hB⟩ := h3.one
    have HB3 := hid (up HB2.out hB)
    have HV3 := hid hv3
    clear hB HB2 hv3 h3 q1 q2
    generalize hy : rdW y = y' at *
    obtain ⟨y1, y2, y3, y4⟩ := y'
    dsimp only
    go_wp2_with fail
    refine (HR2.out w3).mono ?_
    intro e w4 h4
    obtain ⟨v4, rfl, hv4, hB⟩ := h4.one
    rw [hy] at hv4 ⊢
    have HB4 := hid (up HB3.out hB)
    have HV4 := hid hv4
    have HV3 := hid (HV3.out.below hB)
    clear hB HB3 hv4 h4 hy
    have q1 : ((str y1).toList == (str y1).toList) = true := beq_self_eq_true _
    have q2 : (y3 == y3) = true := by simp
    have q3 : (y4 == y4) = true := by simp
    dsimp only
    go_wp2_with fail
    refine (c_Equal_eq y2 v3 v4 w4 HV3.out HV4.out).mono ?_
    rintro e w5 ⟨rfl, hB⟩
    have HB5 := hid (up HB4.out hB)
    clear hB HB4
    dsimp only
    go_wp2_with fail
    refine (l_awake w5 (HE.out.below HB5.out)).mono ?_
    rintro e w6 ⟨rfl, hB⟩
    dsimp only
    go_wp2_with fail
    go_ret
    exact ⟨rfl, up HB5.out hB⟩

end Go.Proofs.YtemmepgfngkgmaaGreatDoor
