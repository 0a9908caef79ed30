/-
  Plain laws of the lexer: where the tokens of a text lie; and between a bracket and the one that closes it all brackets are closed.
-/
import Derived.Test.YtkeglokokleonaaDoorK9
namespace Go.Proofs.YtkeglokokleonaaDoor

def PlcAll (s : List UInt8) : Nat → List Tok → Prop
  | e, [] => e = s.length
  | e, t :: l => ∃ p : Nat, t.pos = p ∧ e ≤ p ∧ p + t.text.length ≤ s.length ∧ (∀ j : Nat, e ≤ j → j < p → s[j]? = some 32) ∧ (s.drop p).take t.text.length = t.text ∧ (t.kind = 3 ↔ l = []) ∧ PlcAll s (p + t.text.length) l

theorem drop_cons' {s : List UInt8} {p : Nat} {c : UInt8} {r : List UInt8} (h : s.drop p = c :: r) : p < s.length ∧ s[p]? = some c ∧ s.drop (p + 1) = r := by
  have hp : p < s.length := by
    rcases Nat.lt_or_ge p s.length with h' | h'
    · exact h'
    · rw [List.drop_eq_nil_of_le h'] at h; simp at h
  have := List.drop_eq_getElem_cons hp
  rw [h] at this
  injection this with h1 h2
  exact ⟨hp, by rw [List.getElem?_eq_getElem hp, h1], h2.symm⟩

theorem scan_places (s : List UInt8) : ∀ (n : Nat) (r : List UInt8) (p e : Nat) (l : List Tok), r.length < n → s.drop p = r → e ≤ p → p ≤ s.length → (∀ j, e ≤ j → j < p → s[j]? = some 32) → fuelS r p = .inr l → PlcAll s e l
  | 0, _, _, _, _, h, _, _, _, _, _ => by omega
  | n + 1, [], p, e, l, _, hd, he, hp, hb, h => by
    rw [fuelS_end] at h
    injection h with h
    have hpl : p = s.length := by
      have := congrArg List.length hd
      rw [List.length_drop] at this
      simp at this; omega
    rw [← h]
    exact ⟨p, rfl, he, by simp; omega, hb, by simp, by simp, by simp [PlcAll, hpl]⟩
  | n + 1, c :: r, p, e, l, hn, hd, he, hp, hb, h => by
    obtain ⟨h1, h2, h3⟩ := drop_cons' hd
    simp only [List.length_cons] at hn
    by_cases hc : c = 32
    · subst hc
      rw [fuelS_blank] at h
      refine scan_places s n r (p + 1) e l (by omega) h3 (by omega) (by omega) (fun j hj1 hj2 => ?_) h
      by_cases hj : j = p
      · rw [hj]; exact h2
      · exact hb j hj1 (by omega)
    · by_cases hx : tokErr (kindOf c) (runOf (c :: r)) = 0
      · rw [fuelS_tok c r p hc hx] at h
        have hr := runOf_len c r
        have hlen : p + (runOf (c :: r)).length ≤ s.length := by
          have := congrArg List.length hd
          rw [List.length_drop] at this
          omega
        cases hz : fuelS ((c :: r).drop (runOf (c :: r)).length) (p + (runOf (c :: r)).length) with
        | inl x => rw [hz] at h; simp [Scn.pre] at h
        | inr l1 =>
          rw [hz] at h
          simp only [Scn.pre] at h
          injection h with h
          have ih := scan_places s n _ (p + (runOf (c :: r)).length) (p + (runOf (c :: r)).length) l1 (by rw [List.length_drop]; simp only [List.length_cons] at *; omega) (by rw [← hd, List.drop_drop]) (Nat.le_refl _) hlen
            (fun j h1 h2 => by omega) hz
          obtain ⟨l0, q, hl0, _⟩ := scan_ok n _ _ l1 (by rw [List.length_drop]; simp only [List.length_cons] at *; omega) hz
          rw [← h]
          refine ⟨p, rfl, he, hlen, hb, by rw [hd]; exact runOf_pre (c :: r), ?_, ih⟩
          have hk : kindOf c ≠ 3 := by unfold kindOf; split <;> (try split) <;> (try split) <;> omega
          constructor
          · intro h4; exact absurd h4 hk
          · intro h4; rw [hl0] at h4; simp at h4
      · rw [fuelS_err c r p hc hx] at h; exact absurd h (by simp)

theorem scan_err_at : ∀ (n : Nat) (r : List UInt8) (p : Nat) (x : Int × Int), r.length < n → fuelS r p = .inl x → (p : Int) ≤ x.1 ∧ x.1 < p + r.length ∧ x.2 ≠ 0
  | 0, _, _, _, h, _ => by omega
  | n + 1, [], p, x, _, h => by rw [fuelS_end] at h; exact absurd h (by simp)
  | n + 1, c :: r, p, x, hn, h => by
    simp only [List.length_cons] at hn
    by_cases hc : c = 32
    · subst hc
      rw [fuelS_blank] at h
      have := scan_err_at n r (p + 1) x (by omega) h
      simp only [List.length_cons]; omega
    · by_cases hx : tokErr (kindOf c) (runOf (c :: r)) = 0
      · rw [fuelS_tok c r p hc hx] at h
        have hr := runOf_len c r
        cases hz : fuelS ((c :: r).drop (runOf (c :: r)).length) (p + (runOf (c :: r)).length) with
        | inr l1 => rw [hz] at h; simp [Scn.pre] at h
        | inl y =>
          rw [hz] at h
          simp only [Scn.pre] at h
          injection h with h
          have := scan_err_at n _ _ y (by rw [List.length_drop]; simp only [List.length_cons] at *; omega) hz
          rw [List.length_drop] at this
          rw [← h]
          simp only [List.length_cons] at *
          omega
      · rw [fuelS_err c r p hc hx] at h
        injection h with h
        rw [← h]
        exact ⟨Int.le_refl _, by simp only [List.length_cons]; omega, hx⟩

/-! ## Brackets -/
inductive Dyck : List Tok → Prop
  | nil : Dyck []
  | skip (t : Tok) (l : List Tok) : opens t = 0 → closes t = 0 → Dyck l → Dyck (t :: l)
  | wrap (t c : Tok) (d l : List Tok) : opens t ≠ 0 → opens c = 0 → closes c = opens t → Dyck d → Dyck l → Dyck (t :: (d ++ c :: l))

theorem Dyck.app {a b : List Tok} (ha : Dyck a) (hb : Dyck b) : Dyck (a ++ b) := by
  induction ha with
  | nil => exact hb
  | skip t l h1 h2 _ ih => exact .skip t _ h1 h2 ih
  | wrap t c d l h1 h2 h3 hd _ _ ih => rw [List.cons_append, List.append_assoc]; exact .wrap t c d _ h1 h2 h3 hd ih

theorem open_not_close (t : Tok) (h : closes t ≠ 0) : opens t = 0 := by
  unfold opens closes at *
  by_cases hk : t.kind = 2
  · simp only [hk, if_true] at *
    by_cases h1 : t.text = [40] <;> by_cases h2 : t.text = [91] <;> by_cases h3 : t.text = [123] <;> simp_all
  · simp [hk]

/-- What closes: from a stack k :: o on, if it ends, there is what lies balanced ahead of k's bracket. -/
theorem close_split : ∀ (n : Nat) (l : List Tok) (i k : Nat) (o : List Nat) (x : Int), l.length < n → closeG l i (k :: o) = (x, 0) →
    ∃ d c r, l = d ++ c :: r ∧ Dyck d ∧ opens c = 0 ∧ closes c = k ∧ closes c ≠ 0 ∧ (if o = [] then x = (i + d.length : Nat) else closeG r (i + d.length + 1) o = (x, 0))
  | 0, _, _, _, _, _, h, _ => by omega
  | n + 1, [], i, k, o, x, _, h => by simp [closeG] at h
  | n + 1, t :: l, i, k, o, x, hn, h => by
    simp only [List.length_cons] at hn
    unfold closeG at h
    by_cases ho : opens t = 0
    · simp only [ho, ne_eq, not_true_eq_false, if_false] at h
      by_cases hc : closes t = 0
      · simp only [hc, not_true_eq_false, if_false] at h
        obtain ⟨d, c, r, h1, h2, h3, h4, h5, h6⟩ := close_split n l (i + 1) k o x (by omega) h
        refine ⟨t :: d, c, r, by rw [h1]; rfl, .skip t d ho hc h2, h3, h4, h5, ?_⟩
        have e : i + (t :: d).length = i + 1 + d.length := by simp only [List.length_cons]; omega
        rw [e]; exact h6
      · simp only [hc, not_false_eq_true, if_true] at h
        by_cases hk : k = closes t
        · simp only [hk, not_true_eq_false, if_false] at h
          refine ⟨[], t, l, rfl, .nil, ho, hk.symm, hc, ?_⟩
          by_cases hoo : o = []
          · simp only [hoo, if_true] at h ⊢
            simpa using (congrArg Prod.fst h).symm
          · simp only [hoo, if_false] at h ⊢
            simpa using h
        · simp [hk] at h
    · simp only [ho, ne_eq, not_false_eq_true, if_true] at h
      obtain ⟨d, c, r, h1, h2, h3, h4, h5, h6⟩ := close_split n l (i + 1) (opens t) (k :: o) x (by omega) h
      simp only [reduceCtorEq, if_false] at h6
      obtain ⟨d', c', r', g1, g2, g3, g4, g5, g6⟩ := close_split n r (i + 1 + d.length + 1) k o x (by rw [h1] at hn; simp at hn; omega) h6
      refine ⟨t :: (d ++ c :: d'), c', r', by rw [h1, g1]; simp, .wrap t c d d' ho h3 h4 h2 g2, g3, g4, g5, ?_⟩
      have e : i + (t :: (d ++ c :: d')).length = i + 1 + d.length + 1 + d'.length := by simp only [List.length_cons, List.length_append]; omega
      rw [e]; exact g6

/-- A balanced list leaves the stack as it is. -/
theorem close_dyck {d : List Tok} (hd : Dyck d) : ∀ (r : List Tok) (i k : Nat) (o : List Nat), closeG (d ++ r) i (k :: o) = closeG r (i + d.length) (k :: o) := by
  induction hd with
  | nil => intro r i k o; rfl
  | skip t l h1 h2 _ ih =>
    intro r i k o
    rw [List.cons_append]
    conv => lhs; unfold closeG
    simp only [h1, h2, ne_eq, not_true_eq_false, if_false]
    rw [ih]; congr 1; simp only [List.length_cons]; omega
  | wrap t c d l h1 h2 h3 _ _ ih1 ih2 =>
    intro r i k o
    rw [List.cons_append, List.append_assoc]
    conv => lhs; unfold closeG
    simp only [h1, ne_eq, not_false_eq_true, if_true]
    rw [ih1]
    rw [List.cons_append]
    conv => lhs; unfold closeG
    have hc : closes c ≠ 0 := by rw [h3]; exact h1
    simp only [h2, h3, h1, ne_eq, not_true_eq_false, not_false_eq_true, if_true, if_false, reduceCtorEq]
    rw [ih2]; congr 1; simp only [List.length_cons, List.length_append]; omega

/-- The bracket behind a balanced list closes. -/
theorem close_wrap {t c : Tok} {d r : List Tok} (h1 : opens t ≠ 0) (h2 : opens c = 0) (h3 : closes c = opens t) (hd : Dyck d) (i : Nat) : closeG (t :: (d ++ c :: r)) i [] = (((i + d.length + 1 : Nat) : Int), 0) := by
  unfold closeG
  simp only [h1, ne_eq, not_false_eq_true, if_true]
  rw [close_dyck hd]
  unfold closeG
  have hc : closes c ≠ 0 := by rw [h3]; exact h1
  simp only [h2, h3, h1, ne_eq, not_true_eq_false, not_false_eq_true, if_true, if_false]
  congr 1; omega

end Go.Proofs.YtkeglokokleonaaDoor
