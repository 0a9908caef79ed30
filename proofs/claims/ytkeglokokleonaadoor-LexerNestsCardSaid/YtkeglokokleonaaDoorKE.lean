/-
  LexerNests: the reference's brackets, and the law's walk.
-/
import Derived.Test.YtkeglokokleonaaDoorKR
import Derived.Test.YtkeglokokleonaaDoorK20
namespace Go.Proofs.YtkeglokokleonaaDoor
open Go.RowKit

theorem str_beq (a b : List UInt8) : ((str a).toList == (str b).toList) = decide (a = b) := by
  rw [ByteArray.toList_eq, ByteArray.toList_eq]
  show (a == b) = _
  by_cases h : a = b
  · subst h; simp
  · rw [decide_eq_false h]; simpa using h

def sortR (kd : Int) (tx a b c : List UInt8) : Nat := if kd = 2 then (if tx = a then 1 else if tx = b then 2 else if tx = c then 3 else 0) else 0

set_option maxRecDepth 100000 in
set_option maxHeartbeats 4000000 in
theorem r_sort (kd ps : Int) (tx a b c : List UInt8) (w : World) : Calls Tryd.prog 35 #[.agg #[.int .i64 kd, .string (str tx), .int .i64 ps], .string (str a), .string (str b), .string (str c)] w
    fun e w' => e = .returned (.int .i64 (sortR kd tx a b c)) ∧ Below w.heap.size w w' := by
  by_cases h2 : kd = 2
  · subst h2
    have e1 := str_beq tx a
    have e2 := str_beq tx b
    have e3 := str_beq tx c
    by_cases h1 : tx = a
    · have hz : sortR 2 tx a b c = 1 := by simp [sortR, h1]
      rw [hz]
      rw [decide_eq_true h1] at e1
      clear e2 e3 hz h1
      go_enter Tryd.func35, Tryd.ntmps35
      go_wp2_with fail
      go_ret
      exact ⟨rfl, by go_grown⟩
    · rw [decide_eq_false h1] at e1
      by_cases h2 : tx = b
      · have hz : sortR 2 tx a b c = 2 := by unfold sortR; rw [if_pos rfl, if_neg h1, if_pos h2]
        rw [hz]
        rw [decide_eq_true h2] at e2
        clear e3 hz h1 h2
        go_enter Tryd.func35, Tryd.ntmps35
        go_wp2_with fail
        go_ret
        exact ⟨rfl, by go_grown⟩
      · rw [decide_eq_false h2] at e2
        by_cases h3 : tx = c
        · have hz : sortR 2 tx a b c = 3 := by unfold sortR; rw [if_pos rfl, if_neg h1, if_neg h2, if_pos h3]
          rw [hz]
          rw [decide_eq_true h3] at e3
          clear hz h1 h2 h3
          go_enter Tryd.func35, Tryd.ntmps35
          go_wp2_with fail
          go_ret
          exact ⟨rfl, by go_grown⟩
        · have hz : sortR 2 tx a b c = 0 := by unfold sortR; rw [if_pos rfl, if_neg h1, if_neg h2, if_neg h3]
          rw [hz]
          rw [decide_eq_false h3] at e3
          clear hz h1 h2 h3
          go_enter Tryd.func35, Tryd.ntmps35
          go_wp2_with fail
          go_ret
          exact ⟨rfl, by go_grown⟩
  · have hz : sortR kd tx a b c = 0 := by unfold sortR; rw [if_neg h2]
    have e0 : (kd != 2) = true := by simpa using h2
    rw [hz]
    clear hz h2
    go_enter Tryd.func35, Tryd.ntmps35
    go_wp2_with fail
    go_ret
    exact ⟨rfl, by go_grown⟩

theorem opens_sort (t : Tok) : sortR t.kind t.text [40] [91] [123] = opens t := rfl
theorem closes_sort (t : Tok) : sortR t.kind t.text [41] [93] [125] = closes t := rfl

set_option maxRecDepth 100000 in
set_option maxHeartbeats 2000000 in
theorem r_Opens (t : Tok) (w : World) : Calls Tryd.prog 17 #[.agg #[.int .i64 t.kind, .string (str t.text), .int .i64 t.pos]] w fun e w' => e = .returned (.int .i64 (opens t)) ∧ Below w.heap.size w w' := by
  have hs := hid (fun w => r_sort t.kind t.pos t.text [40] [91] [123] w)
  rw [opens_sort] at hs
  obtain ⟨kd, tx, ps⟩ := t
  generalize opens ⟨kd, tx, ps⟩ = n at *
  show Calls Tryd.prog 17 #[.agg #[.int .i64 kd, .string (str tx), .int .i64 ps]] w _
  go_enter Tryd.func17, Tryd.ntmps17
  go_wp2_with fail
  refine (hs.out _).mono ?_
  rintro e w1 ⟨rfl, hB⟩
  go_simp
  go_wp2_with fail
  go_ret
  exact ⟨rfl, (((Below.refl _ _).alloc (Nat.le_refl _) _).trans (hB.mono (by simp)))⟩

set_option maxRecDepth 100000 in
set_option maxHeartbeats 2000000 in
theorem r_Closes (t : Tok) (w : World) : Calls Tryd.prog 18 #[.agg #[.int .i64 t.kind, .string (str t.text), .int .i64 t.pos]] w fun e w' => e = .returned (.int .i64 (closes t)) ∧ Below w.heap.size w w' := by
  have hs := hid (fun w => r_sort t.kind t.pos t.text [41] [93] [125] w)
  rw [closes_sort] at hs
  obtain ⟨kd, tx, ps⟩ := t
  generalize closes ⟨kd, tx, ps⟩ = n at *
  show Calls Tryd.prog 18 #[.agg #[.int .i64 kd, .string (str tx), .int .i64 ps]] w _
  go_enter Tryd.func18, Tryd.ntmps18
  go_wp2_with fail
  refine (hs.out _).mono ?_
  rintro e w1 ⟨rfl, hB⟩
  go_simp
  go_wp2_with fail
  go_ret
  exact ⟨rfl, (((Below.refl _ _).alloc (Nat.le_refl _) _).trans (hB.mono (by simp)))⟩

/-- What a bracket that is closed holds: balanced tokens, and the bracket that closes it. -/
theorem close_found {l : List Tok} {a : Int} {x : Int} (h : closeR l a = (x, 0)) : ∃ n m : Nat, a = n ∧ x = m ∧ n < m ∧ m < l.length ∧ opens (l[n]?.getD default) ≠ 0 ∧ closes (l[m]?.getD default) = opens (l[n]?.getD default) ∧
    ∃ d c r, l.drop (n + 1) = d ++ c :: r ∧ Dyck d ∧ n + 1 + d.length = m := by
  unfold closeR at h
  by_cases h1 : a < 0 ∨ (l.length : Int) ≤ a
  · rw [if_pos h1] at h; simp at h
  · rw [if_neg h1] at h
    by_cases h2 : opens (l[a.toNat]?.getD default) = 0
    · rw [if_pos h2] at h; simp at h
    · rw [if_neg h2] at h
      obtain ⟨n, rfl⟩ : ∃ n : Nat, a = n := ⟨a.toNat, by omega⟩
      have hn : n < l.length := by omega
      rw [Int.toNat_natCast] at h h2
      rw [drop_tok hn, closeG_cons, if_pos h2] at h
      obtain ⟨d, c, r, e1, e2, e3, e4, e5, e6⟩ := close_split _ _ _ _ _ _ (Nat.lt_succ_self _) h
      simp only [if_true] at e6
      have hl := congrArg List.length e1
      simp only [List.length_drop, List.length_append, List.length_cons] at hl
      refine ⟨n, n + 1 + d.length, rfl, by rw [e6], by omega, by omega, h2, ?_, d, c, r, e1, e2, rfl⟩
      have hc : l[n + 1 + d.length]? = some c := by
        have : (l.drop (n + 1))[d.length]? = some c := by rw [e1, List.getElem?_append_right (Nat.le_refl _), Nat.sub_self]; rfl
        rw [List.getElem?_drop] at this; exact this
      rw [hc]; exact e4

/-- From inside a balanced list: the next token is no bracket, or one that is closed inside. -/
theorem dyck_step {l : List Tok} {i m : Nat} {d r : List Tok} {c : Tok} (hd : Dyck d) (h : l.drop i = d ++ c :: r) (hm : i + d.length = m) (hi : i < m) :
    closes (l[i]?.getD default) = 0 ∧ ((opens (l[i]?.getD default) = 0 ∧ ∃ d', Dyck d' ∧ l.drop (i + 1) = d' ++ c :: r ∧ i + 1 + d'.length = m) ∨
      (opens (l[i]?.getD default) ≠ 0 ∧ ∃ k : Nat, closeR l i = ((k : Int), 0) ∧ i < k ∧ k < m ∧ ∃ d', Dyck d' ∧ l.drop (k + 1) = d' ++ c :: r ∧ k + 1 + d'.length = m)) := by
  have hil : i < l.length := by
    have := congrArg List.length h
    simp only [List.length_drop, List.length_append, List.length_cons] at this; omega
  have hdr := drop_tok hil
  rw [h] at hdr
  cases hd with
  | nil => simp at hm; omega
  | skip t d' h1 h2 h3 =>
    rw [List.cons_append] at hdr
    injection hdr with e1 e2
    rw [← e1]
    exact ⟨h2, .inl ⟨h1, d', h3, e2.symm, by simp at hm; omega⟩⟩
  | wrap t c' d1 d2 h1 h2 h3 h4 h5 =>
    rw [List.cons_append, List.append_assoc] at hdr
    injection hdr with e1 e2
    rw [← e1]
    have hcl : closes t = 0 := by
      by_cases hc : closes t = 0
      · exact hc
      · exact absurd (open_not_close t hc) h1
    refine ⟨hcl, .inr ⟨h1, i + d1.length + 1, ?_, by omega, ?_, d2, h5, ?_, ?_⟩⟩
    · have ht : opens (l[i]?.getD default) ≠ 0 := by rw [← e1]; exact h1
      unfold closeR
      rw [if_neg (by omega), Int.toNat_natCast, if_neg ht, drop_tok hil, ← e1, ← e2]
      exact close_wrap h1 h2 h3 h4 i
    · simp at hm; omega
    · have : l.drop (i + d1.length + 1 + 1) = (l.drop (i + 1)).drop (d1.length + 1) := by rw [List.drop_drop]; congr 1; omega
      rw [this, ← e2]
      have : d1 ++ ((c' :: d2) ++ c :: r) = (d1 ++ [c']) ++ (d2 ++ c :: r) := by simp
      rw [this, List.drop_append_of_le_length (by simp), List.drop_of_length_le (by simp)]; simp
    · simp at hm; omega

end Go.Proofs.YtkeglokokleonaaDoor
