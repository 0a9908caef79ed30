/-
  A text that is scanned, whatever it is: what comes back, with the tokens in memory.
-/
import Derived.Test.YtkeglokokleonaaDoorKR
namespace Go.Proofs.YtkeglokokleonaaDoor
open Go.RowKit

theorem scan_count : ∀ (n : Nat) (s : List UInt8) (p : Nat) (l : List Tok), s.length < n → fuelS s p = .inr l → l.length ≤ s.length + 1
  | 0, _, _, _, h, _ => by omega
  | n + 1, [], p, l, _, h => by rw [fuelS_end] at h; injection h with h; rw [← h]; simp
  | n + 1, c :: r, p, l, hn, h => by
    simp only [List.length_cons] at hn
    by_cases hc : c = 32
    · subst hc; rw [fuelS_blank] at h
      have := scan_count n r (p + 1) l (by omega) h
      simp only [List.length_cons]; omega
    · by_cases he : tokErr (kindOf c) (runOf (c :: r)) = 0
      · rw [fuelS_tok c r p hc he] at h
        have hr := runOf_len c r
        cases hz : fuelS ((c :: r).drop (runOf (c :: r)).length) (p + (runOf (c :: r)).length) with
        | inl x => rw [hz] at h; simp [Scn.pre] at h
        | inr l1 =>
          rw [hz] at h
          simp only [Scn.pre] at h
          injection h with h
          have := scan_count n _ _ l1 (by rw [List.length_drop]; simp only [List.length_cons] at *; omega) hz
          rw [List.length_drop] at this
          rw [← h]; simp only [List.length_append, List.length_cons, List.length_nil] at *; omega
      · rw [fuelS_err c r p hc he] at h; exact absurd h (by simp)
theorem scanR_count (s : List UInt8) : (Scn.toks (scanR s)).length ≤ 4097 := by
  unfold scanR
  by_cases h : 4096 < s.length
  · rw [if_pos h]; simp [Scn.toks]
  · rw [if_neg h]
    cases hz : scanG (s.length + 1) s 0 with
    | inl x => simp [Scn.toks]
    | inr l => have := scan_count (s.length + 1) s 0 l (by omega) hz; simp only [Scn.toks]; omega

/-- A text that is scanned, whatever it is: what comes back, with the tokens in memory. -/
def GotScan (z : Scn) (w : World) (e : Ending) (w' : World) : Prop :=
  ∃ v, e = .returned (.tuple #[v, .int .i64 z.at', .int .i64 z.no]) ∧ ToksR w' v z.toks ∧ Below w.heap.size w w'
theorem got_p (s : List UInt8) (w : World) : Calls Tryd.prog 10 #[.string (str s)] w (GotScan (scanR s) w) :=
  (p_Scan s w).mono fun e w' ⟨v, h1, h2, h3⟩ => ⟨v, h1, owns_toks h2 (by have := scanR_count s; omega), h3⟩
theorem got_r (s : List UInt8) (w : World) : Calls Tryd.prog 11 #[.string (str s)] w (GotScan (scanR s) w) :=
  (r_Scan s w).mono fun e w' ⟨v, h1, h2, h3⟩ => ⟨v, h1, owns_toks h2 (by have := scanR_count s; omega), h3⟩

theorem okT_len {t : Tok} (h : okT t) : t.text.length ≤ 1024 := by
  refine form_len t true ?_
  unfold formErr
  have h3 : t.kind ≠ 3 := by rcases h.1 with h | h | h <;> omega
  rw [if_neg h3, if_pos h.1, if_pos h.2]

theorem scanR_fuel {s : List UInt8} {l : List Tok} (h : scanR s = .inr l) : s.length ≤ 4096 ∧ fuelS s 0 = .inr l := by
  unfold scanR at h
  by_cases h4 : 4096 < s.length
  · rw [if_pos h4] at h; exact absurd h (by simp)
  · rw [if_neg h4] at h; exact ⟨by omega, h⟩
theorem scanR_back {s : List UInt8} {z : Scn} (h4 : s.length ≤ 4096) (h : fuelS s 0 = z) : scanR s = z := by
  unfold scanR; rw [if_neg (by omega)]; exact h
theorem scanR_toks {s : List UInt8} {l : List Tok} (h : scanR s = .inr l) : ∃ l0 q, l = l0 ++ [⟨3, [], q⟩] ∧ ∀ t ∈ l0, okT t :=
  scan_ok (s.length + 1) s 0 l (by omega) (scanR_fuel h).2
theorem scanR_texts {s : List UInt8} {l : List Tok} (h : scanR s = .inr l) (k : Nat) : (l[k]?.getD default).text.length ≤ 1024 := by
  obtain ⟨l0, q, rfl, ho⟩ := scanR_toks h
  by_cases hk : k < l0.length
  · rw [List.getElem?_append_left hk, List.getElem?_eq_getElem hk]; exact okT_len (ho _ (List.getElem_mem hk))
  · rw [List.getElem?_append_right (by omega)]
    by_cases hk2 : k - l0.length = 0
    · rw [hk2]; simp
    · rw [List.getElem?_eq_none (by simp; omega)]; exact Nat.zero_le _
theorem scanR_err {s : List UInt8} {x : Int × Int} (h : scanR s = .inl x) : x.2 ≠ 0 := by
  unfold scanR at h
  by_cases h4 : 4096 < s.length
  · rw [if_pos h4] at h; injection h with h; rw [← h]; decide
  · rw [if_neg h4] at h; exact (scan_err_at (s.length + 1) s 0 x (by omega) h).2.2

end Go.Proofs.YtkeglokokleonaaDoor
