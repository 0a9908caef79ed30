/-
  LexerScans: for every text the law returns true, and the text reads as before. No conditions beyond the row's own: package variables hold what the program's text lays.
-/
import Derived.Test.YtkeglokokleonaaDoorK18
import Derived.Test.YtkeglokokleonaaDoorTie
import Derived.Test.YtkeglokokleonaaDoorCards
import Derived.ProofKit
import Derived.OpenShut
import Derived.LaidMore
import Derived.Lay
import Derived.SevenTiedAt
import Derived.Stop.Joined
namespace Go.Proofs.YtkeglokokleonaaDoor
open Go.RowKit

theorem law_own : ownKnob Tryd.prog.godebug = none := by kernel_rfl
theorem law_laidOut : laidOutB Tryd.prog = true := by kernel_rfl
theorem und_bool : Tryd.prog.underlying 4 = some .bool := by kernel_rfl
theorem und_string : Tryd.prog.underlying 9 = some .string := by kernel_rfl

theorem scan_count : ∀ (n : Nat) (s : List UInt8) (p : Nat) (l : List Tok), s.length < n → fuelS s p = .inr l → l.length ≤ s.length + 1
  | 0, _, _, _, h, _ => by omega
  | n + 1, [], p, l, _, h => by rw [fuelS_end] at h; injection h with h; rw [← h]; simp
  | n + 1, c :: r, p, l, hn, h => by
    simp only [List.length_cons] at hn
    by_cases hc : c = 32
    · subst hc; rw [fuelS_blank] at h
      have := scan_count n r (p + 1) l (by omega) h
      simp only [List.length_cons]; omega
    · by_cases he : tokErr (kindOf c) (runOf (c :: r)) = 0
      · rw [fuelS_tok c r p hc he] at h
        have hr := runOf_len c r
        cases hz : fuelS ((c :: r).drop (runOf (c :: r)).length) (p + (runOf (c :: r)).length) with
        | inl x => rw [hz] at h; simp [Scn.pre] at h
        | inr l1 =>
          rw [hz] at h
          simp only [Scn.pre] at h
          injection h with h
          have := scan_count n _ _ l1 (by rw [List.length_drop]; simp only [List.length_cons] at *; omega) hz
          rw [List.length_drop] at this
          rw [← h]; simp only [List.length_append, List.length_cons, List.length_nil] at *; omega
      · rw [fuelS_err c r p hc he] at h; exact absurd h (by simp)
theorem scanR_count (s : List UInt8) : (Scn.toks (scanR s)).length ≤ 4097 := by
  unfold scanR
  by_cases h : 4096 < s.length
  · rw [if_pos h]; simp [Scn.toks]
  · rw [if_neg h]
    cases hz : scanG (s.length + 1) s 0 with
    | inl x => simp [Scn.toks]
    | inr l => have := scan_count (s.length + 1) s 0 l (by omega) hz; simp only [Scn.toks]; omega

/-- A text that is scanned, whatever it is: what comes back, with the tokens in memory. -/
def GotScan (z : Scn) (w : World) (e : Ending) (w' : World) : Prop :=
  ∃ v, e = .returned (.tuple #[v, .int .i64 z.at', .int .i64 z.no]) ∧ ToksR w' v z.toks ∧ Below w.heap.size w w'
theorem got_p (s : List UInt8) (w : World) : Calls Tryd.prog 10 #[.string (str s)] w (GotScan (scanR s) w) :=
  (p_Scan s w).mono fun e w' ⟨v, h1, h2, h3⟩ => ⟨v, h1, owns_toks h2 (by have := scanR_count s; omega), h3⟩
theorem got_r (s : List UInt8) (w : World) : Calls Tryd.prog 11 #[.string (str s)] w (GotScan (scanR s) w) :=
  (r_Scan s w).mono fun e w' ⟨v, h1, h2, h3⟩ => ⟨v, h1, owns_toks h2 (by have := scanR_count s; omega), h3⟩

set_option maxRecDepth 100000 in
set_option maxHeartbeats 4000000 in
theorem l_Scans (s : List UInt8) (w : World) : Calls Tryd.prog 3 #[.string (str s)] w fun e w' => e = .returned (.bool true) ∧ Below w.heap.size w w' := by
  have hsame : ∀ (v u : Value) (w1 : World), ToksR w1 v (Scn.toks (scanR s)) → ToksR w1 u (Scn.toks (scanR s)) → Calls Tryd.prog 12 #[v, u] w1 fun e w' => e = .returned (.bool true) ∧ Below w1.heap.size w1 w' := fun v u w1 h1 h2 => by
    have := r_Same _ _ v u w1 h1 h2
    rw [show decide (Scn.toks (scanR s) = Scn.toks (scanR s)) = true from decide_eq_true rfl] at this
    exact this
  have hA := hid (fun w => got_p s w)
  have hB := hid (fun w => got_r s w)
  have hC := hid hsame
  have hD := hid l_awake
  clear hsame
  generalize scanR s = z at *
  by_cases q1 : (8192 : Int) < ((str s).size : Int)
  · have q2 : (1500 : Int) < ((str s).size : Int) := by omega
    have q3 : ¬ ((str s).size : Int) ≤ 4096 := by omega
    go_enter Tryd.func3, Tryd.ntmps3
    go_wp2_with fail
    refine (hD.out _).mono ?_
    rintro e w1 ⟨rfl, hB1⟩
    go_simp
    go_wp2_with fail
    go_ret
    exact ⟨rfl, hB1⟩
  · by_cases q2 : (1500 : Int) < ((str s).size : Int)
    · by_cases q3 : ((str s).size : Int) ≤ 4096
      · go_enter Tryd.func3, Tryd.ntmps3
        go_wp2_with fail
        refine (hD.out _).mono ?_
        rintro e w1 ⟨rfl, hB1⟩
        go_simp
        go_wp2_with fail
        go_ret
        exact ⟨rfl, hB1⟩
      · go_enter Tryd.func3, Tryd.ntmps3
        go_wp2_with fail
        refine (hA.out _).mono ?_
        rintro e w1 ⟨v, rfl, hv, hB1⟩
        go_simp
        go_wp2_with fail
        refine (hB.out _).mono ?_
        rintro e w2 ⟨u, rfl, hu, hB2⟩
        have hv2 := hv.below hB2
        have hBB := up hB1 hB2
        clear hB1 hB2 hv
        go_simp
        go_wp2_with fail
        refine (hC.out _ _ _ hv2 hu).mono ?_
        rintro e w3 ⟨rfl, hB3⟩
        have hBB := up hBB hB3
        clear hB3
        go_simp
        go_wp2_with fail
        refine (hD.out _).mono ?_
        rintro e w4 ⟨rfl, hB4⟩
        have hBB := up hBB hB4
        go_simp
        go_wp2_with fail
        go_ret
        exact ⟨rfl, hBB⟩
    · go_enter Tryd.func3, Tryd.ntmps3
      go_wp2_with fail
      refine (hA.out _).mono ?_
      rintro e w1 ⟨v, rfl, hv, hB1⟩
      go_simp
      go_wp2_with fail
      refine (hB.out _).mono ?_
      rintro e w2 ⟨u, rfl, hu, hB2⟩
      have hv2 := hv.below hB2
      have hBB := up hB1 hB2
      clear hB1 hB2 hv
      go_simp
      go_wp2_with fail
      refine (hC.out _ _ _ hv2 hu).mono ?_
      rintro e w3 ⟨rfl, hB3⟩
      have hBB := up hBB hB3
      clear hB3
      go_simp
      go_wp2_with fail
      refine (hD.out _).mono ?_
      rintro e w4 ⟨rfl, hB4⟩
      have hBB := up hBB hB4
      go_simp
      go_wp2_with fail
      go_ret
      exact ⟨rfl, hBB⟩

end Go.Proofs.YtkeglokokleonaaDoor
