/-
  What is written is read back: plain lists of tokens, no program in sight. Numbers, tables.
-/
import Derived.Test.YtemmepgfngkgmaaGreatDoorN25
namespace Go.Proofs.YtemmepgfngkgmaaGreatDoor
open Go.RowKit
set_option linter.unusedVariables false
set_option linter.unusedSimpArgs false

/-! ## Numbers -/
theorem numOf_app (a : List UInt8) (c : UInt8) : numOf (a ++ [c]) = 10 * numOf a + (c.toNat - 48) := by
  unfold numOf
  rw [List.foldl_append]
  rfl
theorem dig_byte {i : Nat} (h : i < 10) : (UInt8.ofNat (48 + i)).toNat = 48 + i := by
  rw [UInt8.toNat_ofNat']
  omega
theorem dec_num : ∀ u : Nat, numOf (Lib.decDigits u) = u ∧ (Lib.decDigits u).all isDig = true ∧ Lib.decDigits u ≠ [] ∧ (0 < u → (Lib.decDigits u).head? ≠ some 48) := by
  intro u
  induction u using Nat.strongRecOn with
  | _ u ih =>
    by_cases h : u < 10
    · rw [Lib.decDigits, dif_pos h]
      have hb := dig_byte h
      refine ⟨?_, ?_, by simp, fun h0 => ?_⟩
      · show 10 * 0 + ((UInt8.ofNat (48 + u)).toNat - 48) = u
        rw [hb]; omega
      · simp only [List.all_cons, List.all_nil, Bool.and_true]
        unfold isDig
        rw [hb]
        simp
        omega
      · intro e
        have e2 := Option.some.inj e
        have := congrArg UInt8.toNat e2
        rw [hb] at this
        simp at this
        omega
    · obtain ⟨i1, i2, i3, i4⟩ := ih (u / 10) (by omega)
      have hb := dig_byte (i := u % 10) (by omega)
      rw [Lib.decDigits, dif_neg h]
      refine ⟨?_, ?_, by simp, fun _ => ?_⟩
      · rw [numOf_app, i1, hb]; omega
      · rw [List.all_append, i2]
        simp only [List.all_cons, List.all_nil, Bool.and_true, Bool.true_and]
        unfold isDig
        rw [hb]
        simp
        omega
      · have := i4 (by omega)
        cases hd : Lib.decDigits (u / 10) with
        | nil => exact absurd hd i3
        | cons c r => rw [hd] at this; exact this
theorem itoa_nat {n : Int} (h : 0 ≤ n) : Lib.itoa n = Lib.decDigits n.toNat := by
  unfold Lib.itoa
  rw [if_neg (by omega)]
theorem itoa_neg {n : Int} (h : n < 0) : Lib.itoa n = 45 :: Lib.itoa (-n) := by
  rw [itoa_nat (n := -n) (by omega)]
  unfold Lib.itoa
  rw [if_pos h]
  congr 2
  omega
theorem itoa_natB {n : Int} (h : 0 ≤ n) : natB (Lib.itoa n) = true := by
  rw [itoa_nat h]
  obtain ⟨_, i2, i3, i4⟩ := dec_num n.toNat
  unfold natB
  rw [i2]
  by_cases h0 : 0 < n.toNat
  · simp [i3, i4 h0]
  · have e : n.toNat = 0 := by omega
    rw [e, Lib.decDigits_one (by decide)]
    rfl
theorem itoa_natR {n : Int} (h : 0 ≤ n) (h2 : n ≤ 1099511627776) : natR (Lib.itoa n) = (n, 0) := by
  unfold natR
  have hb := itoa_natB h
  rw [if_neg (by rw [hb]; decide)]
  have e : numOf (Lib.itoa n) = n.toNat := by rw [itoa_nat h]; exact (dec_num n.toNat).1
  rw [e, if_neg (by omega)]
  congr 1
  omega
theorem itoa_tok {n : Int} (h : 0 ≤ n) (h2 : n ≤ 1099511627776) : tokErr 1 (Lib.itoa n) = 0 := by
  have hb := itoa_natB h
  have hl : (Lib.itoa n).length ≤ 1024 := by
    rw [itoa_nat h, Lib.decDigits_length]
    have := nDig_le 20 n.toNat (by omega) (by decide)
    omega
  show numErr (Lib.itoa n) = 0
  unfold numErr
  have hb2 := hb
  unfold natB at hb2
  simp only [Bool.and_eq_true] at hb2
  have q1 := hb2.1.1
  have q2 := hb2.1.2
  have q3 : ((Lib.itoa n).isEmpty || !(Lib.itoa n).all isDig) = false := by
    rw [q2]
    cases hE : (Lib.itoa n).isEmpty with
    | true => rw [hE] at q1; cases q1
    | false => rfl
  rw [if_neg (by rw [q3]; decide), if_neg (by omega), if_pos hb]
theorem numFrom_lt : ∀ (l : List UInt8) (a : Nat), l.all isDig = true → numFrom a l < (a + 1) * 10 ^ l.length
  | [], a, _ => by show a < _; simp
  | c :: l, a, h => by
    rw [List.all_cons] at h
    simp only [Bool.and_eq_true] at h
    have hc : c.toNat ≤ 57 := by have := h.1; unfold isDig at this; simp at this; omega
    have ih := numFrom_lt l (10 * a + (c.toNat - 48)) h.2
    show numFrom (10 * a + (c.toNat - 48)) l < _
    refine Nat.lt_of_lt_of_le ih ?_
    rw [List.length_cons, Nat.pow_succ, Nat.mul_comm (10 ^ l.length) 10, ← Nat.mul_assoc]
    exact Nat.mul_le_mul_right _ (by omega)
/-- The number of digits is not more than the text's. -/
theorem natR_len {t : List UInt8} (h : (natR t).2 = 0) : 0 ≤ (natR t).1 ∧ (Lib.itoa (natR t).1).length ≤ t.length := by
  unfold natR at h ⊢
  cases hb : natB t with
  | false => rw [hb] at h; simp at h
  | true =>
    rw [hb] at h
    rw [if_neg (by decide)] at h ⊢
    by_cases h2 : 1099511627776 < numOf t
    · rw [if_pos h2] at h; simp at h
    · rw [if_neg h2] at h ⊢
      refine ⟨by dsimp only; omega, ?_⟩
      show (Lib.itoa ((numOf t : Nat) : Int)).length ≤ _
      rw [itoa_small, Lib.decDigits_length]
      unfold natB at hb
      simp only [Bool.and_eq_true] at hb
      have hne : t ≠ [] := by have := hb.1.1; simpa using this
      have h10 := numFrom_lt t 0 hb.1.2
      have h11 : numFrom 0 t = numOf t := rfl
      rw [h11] at h10
      exact nDig_le t.length _ (by omega) (by cases t with | nil => exact absurd rfl hne | cons c r => simp)

/-! ## The reader over tokens without places -/
def tW (l : List UInt8) : Tok := ⟨0, l, 0⟩
def tN (n : Int) : Tok := ⟨1, Lib.itoa n, 0⟩
def tS (c : UInt8) : Tok := ⟨2, [c], 0⟩
def tE : Tok := ⟨3, [], 0⟩
/-- A reader without an error, over such tokens. -/
structure Rd (s : Rs) (l : List Tok) : Prop where
  e : s.e = 0
  t : s.ts.map Tok.bare = l
theorem bare_get {ts : List Tok} {t : Tok} {r : List Tok} (h : ts.map Tok.bare = t :: r) : (ts[0]?.getD default).kind = t.kind ∧ (ts[0]?.getD default).text = t.text ∧ (ts.drop 1).map Tok.bare = r := by
  cases ts with
  | nil => cases h
  | cons x ts =>
    injection h with h1 h2
    subst h1
    exact ⟨rfl, rfl, h2⟩
section
variable {s : Rs} {t u : Tok} {r : List Tok}
theorem Rd.now (h : Rd s (t :: r)) : s.now.kind = t.kind ∧ s.now.text = t.text := ⟨(bare_get h.t).1, (bare_get h.t).2.1⟩
theorem Rd.skip (h : Rd s (t :: r)) : Rd s.skip r := ⟨h.e, (bare_get h.t).2.2⟩
theorem Rd.more (h : Rd s (t :: r)) : s.more = decide (t.kind ≠ 3) := by
  unfold Rs.more
  rw [h.e, h.now.1]
  simp
theorem Rd.is (h : Rd s (t :: r)) (x : List UInt8) : s.is x = (decide (t.kind ≠ 3) && decide (t.text = x)) := by
  unfold Rs.is
  rw [h.more, h.now.2]
theorem Rd.need (h : Rd s (t :: r)) (hk : t.kind ≠ 3) : Rd (s.need t.text) r := by
  unfold Rs.need
  rw [if_pos (by rw [h.is]; simp [hk])]
  exact h.skip
theorem Rd.num {n lo hi : Int} (h : Rd s (tN n :: r)) (h0 : 0 ≤ n) (hb : n ≤ 1099511627776) (hl : lo ≤ n) (hh : n ≤ hi) : ∃ s', s.num lo hi = (n, s') ∧ Rd s' r := by
  refine ⟨s.skip, ?_, h.skip⟩
  have hr := itoa_natR h0 hb
  have ht : s.now.text = Lib.itoa n := h.now.2
  have hk : s.now.kind = 1 := h.now.1
  unfold Rs.num
  rw [ht, hr, if_neg (by rw [h.e, hk]; simp), if_neg (by simp; omega)]
end
/-- The tokens of a line. -/
def timesK (m : Int) : List Tok := if m = 1 then [] else [tS 42, tN m]
def lnT (sign : UInt8) (x : E) : List Tok := tN x.a :: tS sign :: tN x.b :: timesK x.m
theorem Rd.mul {s : Rs} {m : Int} {t : Tok} {r : List Tok} (h : Rd s (timesK m ++ t :: r)) (hm : 1 ≤ m ∧ m ≤ 50) (ht : t.text ≠ [42]) : ∃ s', s.mul = (m, s') ∧ Rd s' (t :: r) := by
  unfold Rs.mul
  unfold timesK at h
  by_cases h1 : m = 1
  · rw [if_pos h1] at h
    have h : Rd s (t :: r) := h
    subst h1
    rw [if_neg (by rw [h.is]; simp [ht])]
    exact ⟨s, rfl, h⟩
  · rw [if_neg h1] at h
    have h : Rd s (tS 42 :: tN m :: t :: r) := h
    rw [if_pos (by rw [h.is]; rfl)]
    exact h.skip.num (by omega) (by omega) (by omega) (by omega)
/-- The numbers of a line are in their range. -/
def InE (n : Int) (x : E) : Prop := 0 ≤ x.a ∧ x.a < n ∧ 0 ≤ x.b ∧ x.b < n ∧ 1 ≤ x.m ∧ x.m ≤ 50
theorem Rd.line {s : Rs} {sign : UInt8} {n : Int} {x : E} {t : Tok} {r : List Tok} (hn : n ≤ 1000000) (h : Rd s (lnT sign x ++ t :: r)) (hx : InE n x) (ht : t.text ≠ [42]) :
    ∃ pl s', s.line sign n = (⟨x.a, x.b, x.m, pl⟩, s') ∧ Rd s' (t :: r) := by
  obtain ⟨x1, x2, x3, x4, x5, x6⟩ := hx
  have h : Rd s (tN x.a :: tS sign :: tN x.b :: (timesK x.m ++ t :: r)) := h
  obtain ⟨s1, e1, h1⟩ := h.num (lo := 0) (hi := n - 1) x1 (by omega) x1 (by omega)
  have h2 := h1.need (by show (2 : Int) ≠ 3; decide)
  have h2 : Rd (s1.need [sign]) (tN x.b :: (timesK x.m ++ t :: r)) := h2
  obtain ⟨s3, e3, h3⟩ := h2.num (lo := 0) (hi := n - 1) x3 (by omega) x3 (by omega)
  obtain ⟨s4, e4, h4⟩ := h3.mul ⟨x5, x6⟩ ht
  refine ⟨s.now.pos, s4, ?_, h4⟩
  unfold Rs.line
  rw [e1]
  dsimp only
  rw [e3]
  dsimp only
  rw [e4]
theorem tw_all {α : Type} {p : α → Bool} : ∀ l : List α, (∀ x ∈ l, p x = true) → l.takeWhile p = l
  | [], _ => rfl
  | x :: l, h => by rw [List.takeWhile_cons, h x (by simp), if_pos rfl, tw_all l (fun y hy => h y (by simp [hy]))]
theorem sorted_snoc {es : List E} {x : E} (h : SortedE (es ++ [x])) : SortedE es ∧ bet x.a x.b es = 0 ∧ ∀ m, addE es x.a x.b m = es ++ [⟨x.a, x.b, m⟩] := by
  have hpw := (sorted_iff _).1 h
  obtain ⟨h1, _, h2⟩ := List.pairwise_append.1 hpw
  have hs := (sorted_iff es).2 h1
  have hlt : ∀ y ∈ es, ltE y x.a x.b = true := fun y hy => h2 y hy x (by simp)
  have hbt : bet x.a x.b es = 0 := bet_none _ (fun y hy => ltE_irr (hlt y hy))
  refine ⟨hs, hbt, fun m => ?_⟩
  have hp : posE es x.a x.b = es.length := by
    unfold posE
    rw [tw_all es hlt]
  have hf : foundE es x.a x.b = false := by
    unfold foundE
    rw [hp]
    simp
  have hz := insE_new_m hf
  unfold addE
  rw [hz]
  unfold insE
  rw [hf, if_neg (by decide), hp, List.take_length, List.drop_length, List.set_append_right _ _ (Nat.le_refl _), Nat.sub_self]
  simp
theorem insE_bet {es : List E} {x : E} (h : SortedE (es ++ [x])) : ((insE es x.a x.b)[posE es x.a x.b]?.getD default).m = 0 := by
  obtain ⟨hs, hb, _⟩ := sorted_snoc h
  obtain ⟨_, _, _, _, h1, _⟩ := addE_split hs x.a x.b 0
  rw [h1, hb]
theorem lnT_head (sign : UInt8) (x : E) : ∃ q, lnT sign x = tN x.a :: q := ⟨_, rfl⟩
theorem itoa_star {n : Int} (h : 0 ≤ n) : Lib.itoa n ≠ [42] := by
  intro e
  have hb := itoa_natB h
  rw [e] at hb
  exact absurd hb (by decide)
theorem Rd.tab {sign : UInt8} {either : Bool} {n : Int} (hn : n ≤ 1000000) : ∀ (es es0 : List E) (s : Rs) (f : Nat), Rd s (es.flatMap (lnT sign) ++ [tE]) → (either = true → ∀ x ∈ es, x.a ≤ x.b) → (∀ x ∈ es, InE n x) → SortedE (es0 ++ es) → es.length ≤ f →
    ∃ s', tabL sign either n f es0 s = (es0 ++ es, s') ∧ Rd s' [tE]
  | [], es0, s, f, h, _, _, _, _ => by
    have h : Rd s [tE] := h
    rw [List.append_nil]
    exact ⟨s, tabL_end _ _ _ _ _ _ (by rw [h.more]; rfl), h⟩
  | x :: es, es0, s, 0, _, _, _, _, hf => by simp at hf
  | x :: es, es0, s, f + 1, h, hei, hin, hso, hf => by
    have hx := hin x (by simp)
    have hxe : lo either ⟨x.a, x.b, x.m, 0⟩ = x.a ∧ Go.Proofs.YtemmepgfngkgmaaGreatDoor.hi either ⟨x.a, x.b, x.m, 0⟩ = x.b := by
      cases either with
      | false => exact ⟨rfl, rfl⟩
      | true =>
        have := hei rfl x (by simp)
        constructor
        · show min x.a x.b = x.a; omega
        · show max x.a x.b = x.b; omega
    have hmr : s.more = true := by
      have h2 : Rd s (tN x.a :: (tS sign :: tN x.b :: timesK x.m ++ (es.flatMap (lnT sign) ++ [tE]))) := by
        simpa [lnT, List.append_assoc] using h
      rw [h2.more]; rfl
    obtain ⟨t, r, htr, hts⟩ : ∃ t r, es.flatMap (lnT sign) ++ [tE] = t :: r ∧ t.text ≠ [42] := by
      cases es with
      | nil => exact ⟨tE, [], rfl, by decide⟩
      | cons y es => exact ⟨tN y.a, _, rfl, itoa_star (hin y (by simp)).1⟩
    have h3 : Rd s (lnT sign x ++ t :: r) := by
      rw [← htr, ← List.append_assoc]
      simpa using h
    obtain ⟨pl, s2, e2, h4⟩ := h3.line hn hx hts
    have hs1 : SortedE (es0 ++ [x]) := by
      have hpw := (sorted_iff _).1 hso
      refine (sorted_iff _).2 (hpw.sublist ?_)
      exact List.Sublist.append (List.Sublist.refl _) (List.Sublist.cons_cons _ (List.nil_sublist _))
    obtain ⟨_, _, had⟩ := sorted_snoc hs1
    have hib := insE_bet hs1
    rw [← htr] at h4
    obtain ⟨s', e5, h5⟩ := Rd.tab hn es (es0 ++ [x]) s2 f h4 (fun he y hy => hei he y (by simp [hy])) (fun y hy => hin y (by simp [hy])) (by rw [List.append_assoc]; exact hso) (by simpa using hf)
    refine ⟨s', ?_, h5⟩
    unfold tabL
    rw [if_neg (by rw [hmr]; decide)]
    dsimp only
    rw [e2]
    dsimp only
    have hlo : lo either ⟨x.a, x.b, x.m, pl⟩ = x.a := hxe.1
    have hhi : Go.Proofs.YtemmepgfngkgmaaGreatDoor.hi either ⟨x.a, x.b, x.m, pl⟩ = x.b := hxe.2
    rw [hlo, hhi, if_neg (by rw [h4.e]; simp), hib, if_neg (by have := hx.2.2.2.2.2; omega), had]
    have : (es0 ++ [x]) ++ es = es0 ++ x :: es := by simp
    rw [← this]
    exact e5
/-- The tokens of a table behind its word. -/
def tabT' (word : List UInt8) (sign : UInt8) (g : G) : List Tok := tW word :: tN g.n :: tS 58 :: (g.es.flatMap (lnT sign) ++ [tE])
theorem lnT_len (sign : UInt8) (es : List E) : es.length ≤ (es.flatMap (lnT sign)).length := by
  induction es with
  | nil => simp
  | cons x es ih => rw [List.flatMap_cons, List.length_append, List.length_cons]; simp only [lnT, List.length_cons]; omega
theorem Rd.tableP {word : List UInt8} {sign : UInt8} {either : Bool} {g : G} {s : Rs} (h : Rd s (tabT' word sign g)) (hn : 1 ≤ g.n ∧ g.n ≤ 12) (hei : either = true → ∀ x ∈ g.es, x.a ≤ x.b) (hin : ∀ x ∈ g.es, InE g.n x) (hso : SortedE g.es) :
    tableP word sign either s = (g, 0, 0) := by
  have h1 := h.need (by show (0 : Int) ≠ 3; decide)
  have h1 : Rd (s.need word) (tN g.n :: tS 58 :: (g.es.flatMap (lnT sign) ++ [tE])) := h1
  obtain ⟨s2, e2, h2⟩ := h1.num (lo := 1) (hi := 12) (by omega) (by omega) hn.1 hn.2
  have h3 := h2.need (by show (2 : Int) ≠ 3; decide)
  have h3 : Rd (s2.need [58]) (g.es.flatMap (lnT sign) ++ [tE]) := h3
  have hl : g.es.length ≤ (s2.need [58]).ts.length := by
    have := congrArg List.length h3.t
    rw [List.length_map, List.length_append] at this
    have := lnT_len sign g.es
    omega
  obtain ⟨s4, e4, h4⟩ := Rd.tab (either := either) (by omega) g.es [] (s2.need [58]) _ h3 hei hin hso hl
  unfold Go.Proofs.YtemmepgfngkgmaaGreatDoor.tableP Rs.head
  rw [e2]
  dsimp only
  rw [e4]
  dsimp only
  rw [if_neg (by rw [h4.e]; simp), List.nil_append]

/-! ## The text's tokens -/
theorem glue_app (m : Nat) : ∀ (a b : List (Nat × Tok)), glue (a ++ b) m = glue a 0 ++ glue b m
  | [], b => rfl
  | (n, t) :: a, b => by
    show List.replicate n 32 ++ (t.text ++ glue (a ++ b) m) = (List.replicate n 32 ++ (t.text ++ glue a 0)) ++ glue b m
    rw [glue_app m a b]
    simp
theorem sepd_any {l : List (Nat × Tok)} (h : sepd true l) (b : Bool) : sepd b l := by
  cases l with
  | nil => trivial
  | cons x l => obtain ⟨n, t⟩ := x; exact ⟨fun _ => h.1 rfl, h.2⟩
theorem sepd_app : ∀ (a : List (Nat × Tok)) (b : List (Nat × Tok)) (p : Bool), sepd p a → sepd true b → sepd p (a ++ b)
  | [], b, p, _, h => sepd_any h p
  | (n, t) :: a, b, p, h, h2 => ⟨h.1, sepd_app a b _ h.2 h2⟩
theorem sepd_flat {α : Type} (f : α → List (Nat × Tok)) (hf : ∀ x, sepd true (f x)) : ∀ l : List α, sepd true (l.flatMap f)
  | [] => trivial
  | x :: l => by rw [List.flatMap_cons]; exact sepd_app _ _ _ (hf x) (sepd_flat f hf l)
/-- The text's tokens are these. -/
def ScT (t : List UInt8) (l : List Tok) : Prop := ∃ l', scanR t = .inr l' ∧ l'.map Tok.bare = l
theorem ScT.rd {t : List UInt8} {l : List Tok} (h : ScT t l) : Rd (opened (scanR t)) l := by
  obtain ⟨l', h1, h2⟩ := h
  rw [h1]
  exact ⟨rfl, h2⟩
theorem scan_of_glue (L : List (Nat × Tok)) (h : ∀ x ∈ L, okT x.2) (hs : sepd false L) (hl : (glue L 0).length ≤ 4096) : ScT (glue L 0) (L.map (fun x => x.2.bare) ++ [tE]) := by
  obtain ⟨l', h1, h2⟩ := scan_glue 0 L false 0 h hs
  refine ⟨l', ?_, h2⟩
  unfold scanR
  rw [if_neg (by omega)]
  exact h1
theorem okT_W {l : List UInt8} (h : wordErr l = 0) : okT (tW l) := ⟨.inl rfl, h⟩
theorem okT_N {n : Int} (h : 0 ≤ n) (h2 : n ≤ 1099511627776) : okT (tN n) := ⟨.inr (.inl rfl), itoa_tok h h2⟩
theorem okT_S {c : UInt8} (h : isSgn c = true) : okT (tS c) := ⟨.inr (.inr rfl), by show (if isSgn c = true then (0 : Int) else 3) = 0; rw [h]; rfl⟩
def lnG (sign : UInt8) (x : E) : List (Nat × Tok) := (1, tN x.a) :: (0, tS sign) :: (0, tN x.b) :: (if x.m = 1 then [] else [(0, tS 42), (0, tN x.m)])
theorem lnG_tok (sign : UInt8) (x : E) : (lnG sign x).map (fun y => y.2.bare) = lnT sign x := by
  unfold lnG lnT timesK
  by_cases h : x.m = 1
  · rw [if_pos h, if_pos h]; rfl
  · rw [if_neg h, if_neg h]; rfl
theorem lnG_text (sign : UInt8) (x : E) : glue (lnG sign x) 0 = arcT sign x := by
  unfold lnG arcT timesT
  by_cases h : x.m = 1
  · rw [if_pos h, if_pos h]
    simp [glue, tN, tS]
  · rw [if_neg h, if_neg h]
    simp [glue, tN, tS]
theorem lnG_sepd (sign : UInt8) (x : E) : sepd true (lnG sign x) := by
  unfold lnG
  refine ⟨fun _ _ => by decide, fun _ h => by simp [plainT, tS] at h, fun h => by simp [plainT, tS] at h, ?_⟩
  split
  · trivial
  · exact ⟨fun _ h => absurd h (by decide), fun h => absurd h (by decide), trivial⟩
theorem lnG_ok {sign : UInt8} {n : Int} {x : E} (hs : isSgn sign = true) (hn : n ≤ 1000000) (h : InE n x) : ∀ y ∈ lnG sign x, okT y.2 := by
  obtain ⟨x1, x2, x3, x4, x5, x6⟩ := h
  intro y hy
  unfold lnG at hy
  have k1 := okT_N (n := x.a) x1 (by omega)
  have k2 := okT_N (n := x.b) x3 (by omega)
  have k3 := okT_N (n := x.m) (by omega) (by omega)
  have k4 := okT_S hs
  have k5 : okT (tS 42) := okT_S (by decide)
  split at hy
  · simp at hy
    rcases hy with rfl | rfl | rfl
    · exact k1
    · exact k4
    · exact k2
  · simp at hy
    rcases hy with rfl | rfl | rfl | rfl | rfl
    · exact k1
    · exact k4
    · exact k2
    · exact k5
    · exact k3
theorem glue_flat {α : Type} (f : α → List (Nat × Tok)) (g : α → List UInt8) (h : ∀ x, glue (f x) 0 = g x) : ∀ l : List α, glue (l.flatMap f) 0 = l.flatMap g
  | [] => rfl
  | x :: l => by rw [List.flatMap_cons, List.flatMap_cons, glue_app, h, glue_flat f g h l]
theorem map_flat {α : Type} (f : α → List (Nat × Tok)) (g : α → List Tok) (h : ∀ x, (f x).map (fun y => y.2.bare) = g x) : ∀ l : List α, (l.flatMap f).map (fun y => y.2.bare) = l.flatMap g
  | [] => rfl
  | x :: l => by rw [List.flatMap_cons, List.flatMap_cons, List.map_append, h, map_flat f g h l]
def tabGl (word : List UInt8) (sign : UInt8) (g : G) : List (Nat × Tok) := (0, tW word) :: (1, tN g.n) :: (0, tS 58) :: g.es.flatMap (lnG sign)
theorem tabGl_text (word : List UInt8) (sign : UInt8) (g : G) : glue (tabGl word sign g) 0 = word ++ 32 :: tabT sign g := by
  unfold tabGl tabT arcsT
  show List.replicate 0 32 ++ (word ++ (List.replicate 1 32 ++ (Lib.itoa g.n ++ (List.replicate 0 32 ++ ([58] ++ glue (g.es.flatMap (lnG sign)) 0))))) = _
  rw [glue_flat _ _ (lnG_text sign)]
  simp
theorem tabGl_tok (word : List UInt8) (sign : UInt8) (g : G) : (tabGl word sign g).map (fun x => x.2.bare) ++ [tE] = tabT' word sign g := by
  unfold tabGl tabT'
  simp only [List.map_cons]
  rw [map_flat _ _ (lnG_tok sign)]
  rfl
theorem tabGl_sepd (word : List UInt8) (sign : UInt8) (g : G) : sepd false (tabGl word sign g) :=
  ⟨fun h => absurd h (by decide), fun _ _ => by decide, fun _ h => absurd h (by decide), sepd_any (sepd_flat _ (lnG_sepd sign) _) _⟩
theorem tabGl_ok {word : List UInt8} {sign : UInt8} {g : G} (hw : wordErr word = 0) (hs : isSgn sign = true) (hn : 1 ≤ g.n ∧ g.n ≤ 12) (hin : ∀ x ∈ g.es, InE g.n x) : ∀ y ∈ tabGl word sign g, okT y.2 := by
  intro y hy
  unfold tabGl at hy
  simp only [List.mem_cons] at hy
  rcases hy with rfl | rfl | rfl | hy
  · exact okT_W hw
  · exact okT_N (by omega) (by omega)
  · exact okT_S (by decide)
  · obtain ⟨x, hx, hy⟩ := List.mem_flatMap.1 hy
    exact lnG_ok hs (by omega) (hin x hx) y hy

end Go.Proofs.YtemmepgfngkgmaaGreatDoor
