/-
  Plain laws of the lexer: tokens that are written with blanks where they need them are scanned back; what a scan returns has the right forms. Plain laws of the lexer: where the tokens of a text lie; and between a bracket and the one that closes it all brackets are closed.
-/
import Derived.Test.YtemmepgfngkgmaaGreatDoorK0
namespace Go.Proofs.YtemmepgfngkgmaaGreatDoor

def okT (t : Tok) : Prop := (t.kind = 0 ∨ t.kind = 1 ∨ t.kind = 2) ∧ tokErr t.kind t.text = 0
def Tok.bare (t : Tok) : Tok := { t with pos := 0 }
def edge (s : List UInt8) : Prop := ∀ c r, s = c :: r → isLet c = false ∧ isDig c = false

theorem tw_app (p : UInt8 → Bool) (t r : List UInt8) (h : t.all p = true) (hr : ∀ c s, r = c :: s → p c = false) : (t ++ r).takeWhile p = t := by
  induction t with
  | nil => cases r with
    | nil => rfl
    | cons c s => simp [hr c s rfl]
  | cons a t ih => simp at h; simp [h.1]; exact ih (by simpa using h.2)

theorem wordErr_ok {t : List UInt8} (h : wordErr t = 0) : t ≠ [] ∧ t.all isLet = true ∧ t.length ≤ 24 := by
  unfold wordErr at h
  split at h
  · omega
  · split at h
    · omega
    · rename_i h1 h2
      simp only [Bool.or_eq_true, not_or, Bool.not_eq_true, Bool.not_eq_false', List.isEmpty_eq_false_iff] at h1
      exact ⟨h1.1, h1.2, by omega⟩
theorem numErr_ok {t : List UInt8} (h : numErr t = 0) : t ≠ [] ∧ t.all isDig = true ∧ t.length ≤ 1024 := by
  unfold numErr at h
  split at h
  · omega
  · split at h
    · omega
    · rename_i h1 h2
      simp only [Bool.or_eq_true, not_or, Bool.not_eq_true, Bool.not_eq_false', List.isEmpty_eq_false_iff] at h1
      exact ⟨h1.1, h1.2, by omega⟩
theorem sgnErr_ok {t : List UInt8} (h : sgnErr t = 0) : ∃ c, t = [c] ∧ isSgn c = true := by
  unfold sgnErr at h
  split at h
  · rename_i c
    exact ⟨c, rfl, by simpa using h⟩
  · omega

/-- How a right token begins. -/
theorem okT_start {t : Tok} (h : okT t) : ∃ c r, t.text = c :: r ∧ c ≠ 32 ∧ kindOf c = t.kind ∧ (plainT t = false → isLet c = false ∧ isDig c = false) ∧
    ∀ rest, (plainT t = true → edge rest) → runOf (t.text ++ rest) = t.text := by
  obtain ⟨hk, he⟩ := h
  rcases hk with hk | hk | hk <;> rw [hk] at he
  · obtain ⟨h1, h2, _⟩ := wordErr_ok (t := t.text) (by simpa [tokErr] using he)
    match ht : t.text, h1 with
    | c :: r, _ =>
      rw [ht] at h2
      have hc : isLet c = true := by simp at h2; exact h2.1
      refine ⟨c, r, rfl, ?_, by simp [kindOf, hc, hk], by simp [plainT, hk], fun rest hr => ?_⟩
      · rintro rfl; simp [blank_not.1] at hc
      · show runOf (c :: (r ++ rest)) = c :: r
        unfold runOf
        simp only [hc, if_true]
        exact tw_app isLet (c :: r) rest h2 fun d s e => (hr (by simp [plainT, hk]) d s e).1
  · obtain ⟨h1, h2, _⟩ := numErr_ok (t := t.text) (by simpa [tokErr] using he)
    match ht : t.text, h1 with
    | c :: r, _ =>
      rw [ht] at h2
      have hc : isDig c = true := by simp at h2; exact h2.1
      have hl : isLet c = false := by
        cases hx : isLet c with
        | false => rfl
        | true => rw [let_dig c hx] at hc; exact absurd hc (by simp)
      refine ⟨c, r, rfl, ?_, by simp [kindOf, hc, hk, hl], by simp [plainT, hk], fun rest hr => ?_⟩
      · rintro rfl; simp [blank_not.2.1] at hc
      · show runOf (c :: (r ++ rest)) = c :: r
        unfold runOf
        simp only [hc, hl, if_true, Bool.false_eq_true, if_false]
        exact tw_app isDig (c :: r) rest h2 fun d s e => (hr (by simp [plainT, hk]) d s e).2
  · obtain ⟨c, ht, hc⟩ := sgnErr_ok (t := t.text) (by simpa [tokErr] using he)
    obtain ⟨h1, h2, h3⟩ := sgn_not c hc
    exact ⟨c, [], ht, h3, by simp [kindOf, h1, h2, hc, hk], fun _ => ⟨h1, h2⟩, fun rest _ => by rw [ht]; simp [runOf, h1, h2]⟩

/-- Tokens with so many blanks ahead of each, and so many at the end. -/
def glue : List (Nat × Tok) → Nat → List UInt8
  | [], m => List.replicate m 32
  | (n, t) :: l, m => List.replicate n 32 ++ (t.text ++ glue l m)
def sepd : Bool → List (Nat × Tok) → Prop
  | _, [] => True
  | b, (n, t) :: l => (b = true → plainT t = true → 0 < n) ∧ sepd (plainT t) l

theorem edge_blank (n : Nat) (s : List UInt8) (h : n = 0 → edge s) : edge (List.replicate n 32 ++ s) := by
  cases n with
  | zero => simpa using h rfl
  | succ n => intro c r e; simp [List.replicate_succ] at e; rw [← e.1]; exact ⟨blank_not.1, blank_not.2.1⟩

theorem glue_edge (l : List (Nat × Tok)) (m : Nat) (h : ∀ x ∈ l, okT x.2) (hs : sepd true l) : edge (glue l m) := by
  cases l with
  | nil => intro c r e; cases m with
    | zero => simp [glue] at e
    | succ m => simp [glue, List.replicate_succ] at e; rw [← e.1]; exact ⟨blank_not.1, blank_not.2.1⟩
  | cons x l =>
    obtain ⟨n, t⟩ := x
    refine edge_blank n _ fun hn => ?_
    obtain ⟨c, r, h1, h2, h3, h4, h5⟩ := okT_start (h (n, t) (by simp))
    have hp : plainT t = false := by
      cases hp : plainT t with
      | false => rfl
      | true => have := hs.1 rfl hp; omega
    simp only at h1
    rw [h1]
    intro d s e
    simp at e
    rw [← e.1]; exact h4 hp

theorem fuelS_blanks (n : Nat) (s : List UInt8) : ∀ p, fuelS (List.replicate n 32 ++ s) p = fuelS s (p + n) := by
  induction n with
  | zero => intro p; simp
  | succ n ih =>
    intro p
    rw [List.replicate_succ, List.cons_append, fuelS_blank, ih]
    congr 1; omega

theorem scan_glue (m : Nat) : ∀ (l : List (Nat × Tok)) (b : Bool) (p : Nat), (∀ x ∈ l, okT x.2) → sepd b l →
    ∃ l', fuelS (glue l m) p = .inr l' ∧ l'.map Tok.bare = l.map (fun x => x.2.bare) ++ [⟨3, [], 0⟩]
  | [], b, p, _, _ => ⟨[⟨3, [], (p + m : Nat)⟩], by
      have := fuelS_blanks m [] p
      rw [List.append_nil] at this
      simp only [glue]; rw [this, fuelS_end], rfl⟩
  | (n, t) :: l, b, p, h, hs => by
    obtain ⟨l', h1, h2⟩ := scan_glue m l (plainT t) (p + n + t.text.length) (fun x hx => h x (by simp [hx])) hs.2
    obtain ⟨c, r, k1, k2, k3, k4, k5⟩ := okT_start (h (n, t) (by simp))
    simp only at k1 k2 k3 k4 k5
    have hrun : runOf (t.text ++ glue l m) = t.text := k5 _ fun hp => glue_edge l m (fun x hx => h x (by simp [hx])) (by have := hs.2; rw [hp] at this; exact this)
    refine ⟨⟨t.kind, t.text, (p + n : Nat)⟩ :: l', ?_, by simp [Tok.bare, h2]⟩
    simp only [glue]
    rw [fuelS_blanks]
    have hrun' : runOf (c :: (r ++ glue l m)) = t.text := by rw [← List.cons_append, ← k1]; exact hrun
    have := fuelS_tok c (r ++ glue l m) (p + n) k2 (by rw [hrun', k3]; exact (h (n, t) (by simp)).2)
    rw [hrun', k3] at this
    have e : t.text ++ glue l m = c :: (r ++ glue l m) := by rw [← List.cons_append, ← k1]
    rw [e, this, ← e, List.drop_left, h1]
    rfl

/-- What a scan returns: right tokens, and the end. -/
theorem scan_ok : ∀ (n : Nat) (s : List UInt8) (p : Nat) (l : List Tok), s.length < n → fuelS s p = .inr l → ∃ l0 q, l = l0 ++ [⟨3, [], q⟩] ∧ ∀ t ∈ l0, okT t
  | 0, s, _, _, h, _ => by omega
  | n + 1, [], p, l, _, h => by rw [fuelS_end] at h; injection h with h; exact ⟨[], p, by rw [← h]; rfl, by simp⟩
  | n + 1, c :: r, p, l, hn, h => by
    simp only [List.length_cons] at hn
    by_cases hc : c = 32
    · subst hc; rw [fuelS_blank] at h
      exact scan_ok n r (p + 1) l (by omega) h
    · by_cases he : tokErr (kindOf c) (runOf (c :: r)) = 0
      · rw [fuelS_tok c r p hc he] at h
        have hr := runOf_len c r
        cases hz : fuelS ((c :: r).drop (runOf (c :: r)).length) (p + (runOf (c :: r)).length) with
        | inl x => rw [hz] at h; simp [Scn.pre] at h
        | inr l1 =>
          rw [hz] at h
          simp only [Scn.pre] at h
          injection h with h
          obtain ⟨l0, q, h1, h2⟩ := scan_ok n _ _ l1 (by rw [List.length_drop]; simp only [List.length_cons] at *; omega) hz
          refine ⟨⟨kindOf c, runOf (c :: r), p⟩ :: l0, q, by rw [← h, h1]; rfl, fun t ht => ?_⟩
          rcases List.mem_cons.1 ht with rfl | ht
          · refine ⟨?_, he⟩
            show kindOf c = 0 ∨ kindOf c = 1 ∨ kindOf c = 2
            by_cases h4 : kindOf c = 0 ∨ kindOf c = 1 ∨ kindOf c = 2
            · exact h4
            · exfalso
              have : kindOf c = 4 := by
                unfold kindOf at h4 ⊢
                cases hl : isLet c <;> cases hd : isDig c <;> cases hg : isSgn c <;> simp [hl, hd, hg] at h4 ⊢
              rw [this] at he
              simp [tokErr] at he
          · exact h2 t ht
      · rw [fuelS_err c r p hc he] at h; exact absurd h (by simp)

/-! ## The normal text -/
def marked : Bool → List Tok → List (Nat × Tok)
  | _, [] => []
  | b, t :: l => (if b && plainT t then 1 else 0, t) :: marked (plainT t) l
theorem marked_snd (b : Bool) (l : List Tok) : (marked b l).map Prod.snd = l := by
  induction l generalizing b with
  | nil => rfl
  | cons t l ih => simp [marked, ih]
theorem marked_sepd (b : Bool) (l : List Tok) : sepd b (marked b l) := by
  induction l generalizing b with
  | nil => trivial
  | cons t l ih => exact ⟨fun h1 h2 => by simp [h1, h2], ih _⟩
theorem joined_glue (q : Int) (b : Bool) (l : List Tok) : joined b (l ++ [(⟨3, [], q⟩ : Tok)]) = glue (marked b l) 0 := by
  induction l generalizing b with
  | nil => simp [joined, marked, glue, plainT]
  | cons t l ih =>
    simp only [List.cons_append, joined, marked, glue, ih]
    by_cases h : (b && plainT t) = true
    · simp [h]
    · simp [h]

theorem bare_okT {t u : Tok} (h : t.bare = u.bare) (ht : okT t) : okT u := by
  simp only [Tok.bare, Tok.mk.injEq] at h
  unfold okT at *; rw [← h.1, ← h.2.1]; exact ht

/-- The tokens of the normal text of right tokens are the same up to offsets. -/
theorem scan_join (l : List Tok) (q : Int) (h : ∀ t ∈ l, okT t) : ∃ l', fuelS (joined false (l ++ [(⟨3, [], q⟩ : Tok)])) 0 = .inr l' ∧ l'.map Tok.bare = (l ++ [(⟨3, [], q⟩ : Tok)]).map Tok.bare := by
  rw [joined_glue]
  obtain ⟨l', h1, h2⟩ := scan_glue 0 (marked false l) false 0 (fun x hx => h _ (by rw [← marked_snd false l]; exact List.mem_map_of_mem hx)) (marked_sepd false l)
  refine ⟨l', h1, ?_⟩
  rw [h2]
  have := marked_snd false l
  conv => rhs; rw [← this]
  simp [Tok.bare]

theorem joined_bare (b : Bool) : ∀ (l m : List Tok), l.map Tok.bare = m.map Tok.bare → joined b l = joined b m := by
  intro l
  induction l generalizing b with
  | nil => intro m h; cases m with
    | nil => rfl
    | cons a m => simp at h
  | cons t l ih => intro m h; cases m with
    | nil => simp at h
    | cons u m =>
      simp only [List.map_cons, List.cons.injEq] at h
      have hu := h.1
      simp only [Tok.bare, Tok.mk.injEq] at hu
      have hp : plainT t = plainT u := by unfold plainT; rw [hu.1]
      simp only [joined, hp, hu.2.1, ih _ m h.2]

theorem nz_zero (f : Nat → Int) (n : Nat) (h : ∀ i, i < n → f i = 0) : firstNZ f 0 n = 0 := by
  have g : ∀ k i, i + k = n → firstNZ f i k = 0 := by
    intro k
    induction k with
    | zero => intro i _; rfl
    | succ k ih => intro i hi; unfold firstNZ; rw [h i (by omega)]; simpa using ih (i + 1) (by omega)
  exact g n 0 (by omega)
theorem nz_all (f : Nat → Int) (n : Nat) (h : firstNZ f 0 n = 0) : ∀ i, i < n → f i = 0 := by
  have g : ∀ k i, i + k = n → firstNZ f i k = 0 → ∀ j, i ≤ j → j < n → f j = 0 := by
    intro k
    induction k with
    | zero => intro i _ _ j _ _; omega
    | succ k ih =>
      intro i hi h0 j h1 h2
      unfold firstNZ at h0
      by_cases hf : f i = 0
      · simp only [hf, ne_eq, not_true_eq_false, if_false] at h0
        by_cases hj : j = i
        · rw [hj]; exact hf
        · exact ih (i + 1) (by omega) h0 j (by omega) h2
      · simp [hf] at h0
  exact fun i hi => g n 0 (by omega) h i (Nat.zero_le _) hi

/-- Right tokens and the end are joined. -/
theorem form_ok (l : List Tok) (q : Int) (h : ∀ t ∈ l, okT t) : firstNZ (formAt (l ++ [(⟨3, [], q⟩ : Tok)])) 0 (l ++ [(⟨3, [], q⟩ : Tok)]).length = 0 := by
  refine nz_zero _ _ fun i hi => ?_
  simp only [List.length_append, List.length_cons, List.length_nil] at hi
  unfold formAt
  by_cases hl : i < l.length
  · rw [List.getElem?_append_left hl]
    obtain ⟨hk, he⟩ := h l[i] (List.getElem_mem hl)
    simp only [hl, List.getElem?_eq_getElem, Option.getD_some]
    unfold formErr
    have : l[i].kind ≠ 3 := by rcases hk with hk | hk | hk <;> omega
    rw [if_neg this, if_pos hk, if_pos he]
  · have : i = l.length := by omega
    subst this
    simp [formErr]

/-- What is joined: right tokens and the end. -/
theorem form_back (l : List Tok) (hl : l.length ≤ 4097) (h : firstNZ (formAt l) 0 l.length = 0) (he : l.getLast?.map Tok.kind = some 3) : ∃ l0 q, l = l0 ++ [⟨3, [], q⟩] ∧ ∀ t ∈ l0, okT t := by
  have hall := nz_all _ _ h
  obtain ⟨t, hx, he'⟩ : ∃ t, l.getLast? = some t ∧ t.kind = 3 := by
    cases hx : l.getLast? with
    | none => rw [hx] at he; simp at he
    | some t => rw [hx] at he; exact ⟨t, rfl, by simpa using he⟩
  · obtain ⟨l0, rfl⟩ := List.getLast?_eq_some_iff.1 hx
    have hlast := hall l0.length (by simp)
    simp only [formAt, List.getElem?_append_right (Nat.le_refl _), Nat.sub_self, List.getElem?_cons_zero, Option.getD_some] at hlast
    have ht : t.text = [] := by
      unfold formErr at hlast
      rw [if_pos he'] at hlast
      simp at hlast
      exact hlast
    refine ⟨l0, t.pos, by rw [← he', ← ht], fun u hu => ?_⟩
    obtain ⟨i, hi, rfl⟩ := List.getElem_of_mem hu
    have := hall i (by simp; omega)
    unfold formAt at this
    rw [List.getElem?_append_left hi, List.getElem?_eq_getElem hi] at this
    have hne : decide (i + 1 = (l0 ++ [t]).length) = false := by simp; omega
    rw [hne] at this
    simp only [Option.getD_some, formErr] at this
    by_cases h3 : l0[i].kind = 3
    · simp [h3] at this
    · rw [if_neg h3] at this
      by_cases hk : l0[i].kind = 0 ∨ l0[i].kind = 1 ∨ l0[i].kind = 2
      · rw [if_pos hk] at this
        refine ⟨hk, ?_⟩
        by_cases h0 : tokErr l0[i].kind l0[i].text = 0
        · exact h0
        · rw [if_neg h0] at this; omega
      · rw [if_neg hk] at this; omega

end Go.Proofs.YtemmepgfngkgmaaGreatDoor

namespace Go.Proofs.YtemmepgfngkgmaaGreatDoor

def PlcAll (s : List UInt8) : Nat → List Tok → Prop
  | e, [] => e = s.length
  | e, t :: l => ∃ p : Nat, t.pos = p ∧ e ≤ p ∧ p + t.text.length ≤ s.length ∧ (∀ j : Nat, e ≤ j → j < p → s[j]? = some 32) ∧ (s.drop p).take t.text.length = t.text ∧ (t.kind = 3 ↔ l = []) ∧ PlcAll s (p + t.text.length) l

theorem drop_cons' {s : List UInt8} {p : Nat} {c : UInt8} {r : List UInt8} (h : s.drop p = c :: r) : p < s.length ∧ s[p]? = some c ∧ s.drop (p + 1) = r := by
  have hp : p < s.length := by
    rcases Nat.lt_or_ge p s.length with h' | h'
    · exact h'
    · rw [List.drop_eq_nil_of_le h'] at h; simp at h
  have := List.drop_eq_getElem_cons hp
  rw [h] at this
  injection this with h1 h2
  exact ⟨hp, by rw [List.getElem?_eq_getElem hp, h1], h2.symm⟩

theorem scan_places (s : List UInt8) : ∀ (n : Nat) (r : List UInt8) (p e : Nat) (l : List Tok), r.length < n → s.drop p = r → e ≤ p → p ≤ s.length → (∀ j, e ≤ j → j < p → s[j]? = some 32) → fuelS r p = .inr l → PlcAll s e l
  | 0, _, _, _, _, h, _, _, _, _, _ => by omega
  | n + 1, [], p, e, l, _, hd, he, hp, hb, h => by
    rw [fuelS_end] at h
    injection h with h
    have hpl : p = s.length := by
      have := congrArg List.length hd
      rw [List.length_drop] at this
      simp at this; omega
    rw [← h]
    exact ⟨p, rfl, he, by simp; omega, hb, by simp, by simp, by simp [PlcAll, hpl]⟩
  | n + 1, c :: r, p, e, l, hn, hd, he, hp, hb, h => by
    obtain ⟨h1, h2, h3⟩ := drop_cons' hd
    simp only [List.length_cons] at hn
    by_cases hc : c = 32
    · subst hc
      rw [fuelS_blank] at h
      refine scan_places s n r (p + 1) e l (by omega) h3 (by omega) (by omega) (fun j hj1 hj2 => ?_) h
      by_cases hj : j = p
      · rw [hj]; exact h2
      · exact hb j hj1 (by omega)
    · by_cases hx : tokErr (kindOf c) (runOf (c :: r)) = 0
      · rw [fuelS_tok c r p hc hx] at h
        have hr := runOf_len c r
        have hlen : p + (runOf (c :: r)).length ≤ s.length := by
          have := congrArg List.length hd
          rw [List.length_drop] at this
          omega
        cases hz : fuelS ((c :: r).drop (runOf (c :: r)).length) (p + (runOf (c :: r)).length) with
        | inl x => rw [hz] at h; simp [Scn.pre] at h
        | inr l1 =>
          rw [hz] at h
          simp only [Scn.pre] at h
          injection h with h
          have ih := scan_places s n _ (p + (runOf (c :: r)).length) (p + (runOf (c :: r)).length) l1 (by rw [List.length_drop]; simp only [List.length_cons] at *; omega) (by rw [← hd, List.drop_drop]) (Nat.le_refl _) hlen
            (fun j h1 h2 => by omega) hz
          obtain ⟨l0, q, hl0, _⟩ := scan_ok n _ _ l1 (by rw [List.length_drop]; simp only [List.length_cons] at *; omega) hz
          rw [← h]
          refine ⟨p, rfl, he, hlen, hb, by rw [hd]; exact runOf_pre (c :: r), ?_, ih⟩
          have hk : kindOf c ≠ 3 := by unfold kindOf; split <;> (try split) <;> (try split) <;> omega
          constructor
          · intro h4; exact absurd h4 hk
          · intro h4; rw [hl0] at h4; simp at h4
      · rw [fuelS_err c r p hc hx] at h; exact absurd h (by simp)

theorem scan_err_at : ∀ (n : Nat) (r : List UInt8) (p : Nat) (x : Int × Int), r.length < n → fuelS r p = .inl x → (p : Int) ≤ x.1 ∧ x.1 < p + r.length ∧ x.2 ≠ 0
  | 0, _, _, _, h, _ => by omega
  | n + 1, [], p, x, _, h => by rw [fuelS_end] at h; exact absurd h (by simp)
  | n + 1, c :: r, p, x, hn, h => by
    simp only [List.length_cons] at hn
    by_cases hc : c = 32
    · subst hc
      rw [fuelS_blank] at h
      have := scan_err_at n r (p + 1) x (by omega) h
      simp only [List.length_cons]; omega
    · by_cases hx : tokErr (kindOf c) (runOf (c :: r)) = 0
      · rw [fuelS_tok c r p hc hx] at h
        have hr := runOf_len c r
        cases hz : fuelS ((c :: r).drop (runOf (c :: r)).length) (p + (runOf (c :: r)).length) with
        | inr l1 => rw [hz] at h; simp [Scn.pre] at h
        | inl y =>
          rw [hz] at h
          simp only [Scn.pre] at h
          injection h with h
          have := scan_err_at n _ _ y (by rw [List.length_drop]; simp only [List.length_cons] at *; omega) hz
          rw [List.length_drop] at this
          rw [← h]
          simp only [List.length_cons] at *
          omega
      · rw [fuelS_err c r p hc hx] at h
        injection h with h
        rw [← h]
        exact ⟨Int.le_refl _, by simp only [List.length_cons]; omega, hx⟩

/-! ## Brackets -/
inductive Dyck : List Tok → Prop
  | nil : Dyck []
  | skip (t : Tok) (l : List Tok) : opens t = 0 → closes t = 0 → Dyck l → Dyck (t :: l)
  | wrap (t c : Tok) (d l : List Tok) : opens t ≠ 0 → opens c = 0 → closes c = opens t → Dyck d → Dyck l → Dyck (t :: (d ++ c :: l))

theorem Dyck.app {a b : List Tok} (ha : Dyck a) (hb : Dyck b) : Dyck (a ++ b) := by
  induction ha with
  | nil => exact hb
  | skip t l h1 h2 _ ih => exact .skip t _ h1 h2 ih
  | wrap t c d l h1 h2 h3 hd _ _ ih => rw [List.cons_append, List.append_assoc]; exact .wrap t c d _ h1 h2 h3 hd ih

theorem open_not_close (t : Tok) (h : closes t ≠ 0) : opens t = 0 := by
  unfold opens closes at *
  by_cases hk : t.kind = 2
  · simp only [hk, if_true] at *
    by_cases h1 : t.text = [40] <;> by_cases h2 : t.text = [91] <;> by_cases h3 : t.text = [123] <;> simp_all
  · simp [hk]

/-- What closes: from a stack k :: o on, if it ends, there is what lies balanced ahead of k's bracket. -/
theorem close_split : ∀ (n : Nat) (l : List Tok) (i k : Nat) (o : List Nat) (x : Int), l.length < n → closeG l i (k :: o) = (x, 0) →
    ∃ d c r, l = d ++ c :: r ∧ Dyck d ∧ opens c = 0 ∧ closes c = k ∧ closes c ≠ 0 ∧ (if o = [] then x = (i + d.length : Nat) else closeG r (i + d.length + 1) o = (x, 0))
  | 0, _, _, _, _, _, h, _ => by omega
  | n + 1, [], i, k, o, x, _, h => by simp [closeG] at h
  | n + 1, t :: l, i, k, o, x, hn, h => by
    simp only [List.length_cons] at hn
    unfold closeG at h
    by_cases ho : opens t = 0
    · simp only [ho, ne_eq, not_true_eq_false, if_false] at h
      by_cases hc : closes t = 0
      · simp only [hc, not_true_eq_false, if_false] at h
        obtain ⟨d, c, r, h1, h2, h3, h4, h5, h6⟩ := close_split n l (i + 1) k o x (by omega) h
        refine ⟨t :: d, c, r, by rw [h1]; rfl, .skip t d ho hc h2, h3, h4, h5, ?_⟩
        have e : i + (t :: d).length = i + 1 + d.length := by simp only [List.length_cons]; omega
        rw [e]; exact h6
      · simp only [hc, not_false_eq_true, if_true] at h
        by_cases hk : k = closes t
        · simp only [hk, not_true_eq_false, if_false] at h
          refine ⟨[], t, l, rfl, .nil, ho, hk.symm, hc, ?_⟩
          by_cases hoo : o = []
          · simp only [hoo, if_true] at h ⊢
            simpa using (congrArg Prod.fst h).symm
          · simp only [hoo, if_false] at h ⊢
            simpa using h
        · simp [hk] at h
    · simp only [ho, ne_eq, not_false_eq_true, if_true] at h
      obtain ⟨d, c, r, h1, h2, h3, h4, h5, h6⟩ := close_split n l (i + 1) (opens t) (k :: o) x (by omega) h
      simp only [reduceCtorEq, if_false] at h6
      obtain ⟨d', c', r', g1, g2, g3, g4, g5, g6⟩ := close_split n r (i + 1 + d.length + 1) k o x (by rw [h1] at hn; simp at hn; omega) h6
      refine ⟨t :: (d ++ c :: d'), c', r', by rw [h1, g1]; simp, .wrap t c d d' ho h3 h4 h2 g2, g3, g4, g5, ?_⟩
      have e : i + (t :: (d ++ c :: d')).length = i + 1 + d.length + 1 + d'.length := by simp only [List.length_cons, List.length_append]; omega
      rw [e]; exact g6

/-- A balanced list leaves the stack as it is. -/
theorem close_dyck {d : List Tok} (hd : Dyck d) : ∀ (r : List Tok) (i k : Nat) (o : List Nat), closeG (d ++ r) i (k :: o) = closeG r (i + d.length) (k :: o) := by
  induction hd with
  | nil => intro r i k o; rfl
  | skip t l h1 h2 _ ih =>
    intro r i k o
    rw [List.cons_append]
    conv => lhs; unfold closeG
    simp only [h1, h2, ne_eq, not_true_eq_false, if_false]
    rw [ih]; congr 1; simp only [List.length_cons]; omega
  | wrap t c d l h1 h2 h3 _ _ ih1 ih2 =>
    intro r i k o
    rw [List.cons_append, List.append_assoc]
    conv => lhs; unfold closeG
    simp only [h1, ne_eq, not_false_eq_true, if_true]
    rw [ih1]
    rw [List.cons_append]
    conv => lhs; unfold closeG
    have hc : closes c ≠ 0 := by rw [h3]; exact h1
    simp only [h2, h3, h1, ne_eq, not_true_eq_false, not_false_eq_true, if_true, if_false, reduceCtorEq]
    rw [ih2]; congr 1; simp only [List.length_cons, List.length_append]; omega

/-- The bracket behind a balanced list closes. -/
theorem close_wrap {t c : Tok} {d r : List Tok} (h1 : opens t ≠ 0) (h2 : opens c = 0) (h3 : closes c = opens t) (hd : Dyck d) (i : Nat) : closeG (t :: (d ++ c :: r)) i [] = (((i + d.length + 1 : Nat) : Int), 0) := by
  unfold closeG
  simp only [h1, ne_eq, not_false_eq_true, if_true]
  rw [close_dyck hd]
  unfold closeG
  have hc : closes c ≠ 0 := by rw [h3]; exact h1
  simp only [h2, h3, h1, ne_eq, not_true_eq_false, not_false_eq_true, if_true, if_false]
  congr 1; omega

end Go.Proofs.YtemmepgfngkgmaaGreatDoor
