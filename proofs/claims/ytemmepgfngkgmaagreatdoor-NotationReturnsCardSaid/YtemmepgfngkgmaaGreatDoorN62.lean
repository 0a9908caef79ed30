/-
  What is written is read back: lists, ribbon graphs. Plain.
-/
import Derived.Test.YtemmepgfngkgmaaGreatDoorN60
import Derived.Test.YtemmepgfngkgmaaGreatDoorN28
namespace Go.Proofs.YtemmepgfngkgmaaGreatDoor
open Go.RowKit
set_option linter.unusedVariables false
set_option linter.unusedSimpArgs false

/-! ## Lists -/
def iK (x : Int) : List Tok := if x < 0 then [tS 45, tN (-x)] else [tN x]
def iG (x : Int) : List (Nat × Tok) := if x < 0 then [(1, tS 45), (0, tN (-x))] else [(1, tN x)]
theorem iG_tok (x : Int) : (iG x).map (fun y => y.2.bare) = iK x := by
  unfold iG iK
  split <;> rfl
theorem iG_text (x : Int) : glue (iG x) 0 = 32 :: Lib.itoa x := by
  unfold iG
  by_cases h : x < 0
  · rw [if_pos h, Go.Proofs.YtemmepgfngkgmaaGreatDoor.itoa_neg h]
    simp [glue, tN, tS]
  · rw [if_neg h]
    simp [glue, tN]
theorem iG_sepd (x : Int) : sepd true (iG x) := by
  unfold iG
  split
  · exact ⟨fun _ _ => by decide, fun h => absurd h (by decide), trivial⟩
  · exact ⟨fun _ _ => by decide, trivial⟩
theorem iG_ok {x : Int} (h : chipB x = true) : ∀ y ∈ iG x, okT y.2 := by
  have h1 := itoa_chip h
  intro y hy
  unfold iG at hy
  by_cases h0 : x < 0
  · rw [if_pos h0] at hy
    simp at hy
    rcases hy with rfl | rfl
    · exact okT_S (by decide)
    · exact okT_N (by omega) (by omega)
  · rw [if_neg h0] at hy
    simp at hy
    subst hy
    exact okT_N (by omega) (by omega)
theorem itoa_zero {n : Int} (h : 0 < n) (h2 : n ≤ 1099511627776) : Lib.itoa n ≠ [48] := by
  intro e
  have h1 := itoa_natR (n := n) (by omega) h2
  rw [e] at h1
  have h3 : natR [48] = (0, 0) := by decide
  rw [h3] at h1
  injection h1 with h1 _
  omega
theorem signed_of {ts : List Tok} {x : Int} {r : List Tok} (h : ts.map Tok.bare = iK x ++ r) (hx : chipB x = true) : signedR ts 0 = (x, ((iK x).length : Int), 0) := by
  have hc := itoa_chip hx
  unfold iK at h ⊢
  by_cases h0 : x < 0
  · rw [if_pos h0] at h ⊢
    have h : ts.map Tok.bare = tS 45 :: tN (-x) :: r := h
    obtain ⟨t0, ts, rfl⟩ : ∃ t0 l, ts = t0 :: l := by cases ts with | nil => cases h | cons a b => exact ⟨a, b, rfl⟩
    injection h with e0 h
    obtain ⟨t1, ts, rfl⟩ : ∃ t0 l, ts = t0 :: l := by cases ts with | nil => cases h | cons a b => exact ⟨a, b, rfl⟩
    injection h with e1 h
    have k0 : t0.kind = 2 ∧ t0.text = [45] := by simpa [Tok.bare, tS] using e0
    have k1 : t1.kind = 1 ∧ t1.text = Lib.itoa (-x) := by simpa [Tok.bare, tN] using e1
    have hn := itoa_natR (n := -x) (by omega) (by omega)
    have hz := itoa_zero (n := -x) (by omega) (by omega)
    unfold signedR
    rw [if_neg (by simp)]
    dsimp only
    have hneg : (((t0 :: t1 :: ts)[0]?.getD default).kind = 2 ∧ ((t0 :: t1 :: ts)[0]?.getD default).text = [45]) := k0
    rw [if_pos hneg]
    have g1 : (t0 :: t1 :: ts)[0 + 1]?.getD default = t1 := rfl
    rw [g1, k1.1, k1.2, hn]
    rw [if_neg (by simp [hz]), if_neg (by simp), if_pos hneg]
    simp
  · rw [if_neg h0] at h ⊢
    have h : ts.map Tok.bare = tN x :: r := h
    obtain ⟨t0, ts, rfl⟩ : ∃ t0 l, ts = t0 :: l := by cases ts with | nil => cases h | cons a b => exact ⟨a, b, rfl⟩
    injection h with e0 h
    have k0 : t0.kind = 1 ∧ t0.text = Lib.itoa x := by simpa [Tok.bare, tN] using e0
    have hn := itoa_natR (n := x) (by omega) (by omega)
    unfold signedR
    rw [if_neg (by simp)]
    dsimp only
    have hneg : ¬ (((t0 :: ts)[0]?.getD default).kind = 2 ∧ ((t0 :: ts)[0]?.getD default).text = [45]) := fun h => by
      have : t0.kind = 2 := h.1
      omega
    rw [if_neg hneg]
    have g1 : (t0 :: ts)[0]?.getD default = t0 := rfl
    rw [g1] at hneg ⊢
    rw [k0.1, k0.2, hn]
    rw [if_neg (by rw [k0.1] at hneg; simp), if_neg (by simp), if_neg (by rw [k0.1] at hneg; simp)]
    simp
theorem intsG_of : ∀ (l out : List Int) (ts : List Tok) (f : Nat), ts.map Tok.bare = l.flatMap iK ++ [tE] → l.all chipB = true → out.length + l.length ≤ 256 → l.length ≤ f → intsG f out ts = .inr (out ++ l)
  | [], out, ts, 0, _, _, _, _ => by rw [List.append_nil]; rfl
  | [], out, ts, f + 1, h, _, _, _ => by
    have hk : (tokAt ts 0).kind = 3 := (bare_get (t := tE) (r := []) h).1
    unfold intsG
    rw [if_pos hk, List.append_nil]
  | x :: l, out, ts, 0, _, _, _, hf => by simp at hf
  | x :: l, out, ts, f + 1, h, hc, ho, hf => by
    rw [List.all_cons] at hc
    simp only [Bool.and_eq_true] at hc
    rw [List.flatMap_cons, List.append_assoc] at h
    have hs := signed_of h hc.1
    have hk : (tokAt ts 0).kind ≠ 3 := by
      unfold iK at h
      by_cases h0 : x < 0
      · rw [if_pos h0] at h
        have := (bare_get (t := tS 45) h).1
        show (ts[0]?.getD default).kind ≠ 3
        rw [this]; decide
      · rw [if_neg h0] at h
        have := (bare_get (t := tN x) h).1
        show (ts[0]?.getD default).kind ≠ 3
        rw [this]; show (1 : Int) ≠ 3; decide
    have hd : (ts.drop (iK x).length).map Tok.bare = l.flatMap iK ++ [tE] := by
      rw [List.map_drop, h, List.drop_left]
    have ih := intsG_of l (out ++ [x]) (ts.drop (iK x).length) f hd hc.2 (by simp at ho ⊢; omega) (by simpa using hf)
    unfold intsG
    rw [if_neg hk, hs]
    dsimp only
    rw [if_neg (by decide), if_neg (by rw [hc.1]; simp), if_neg (by simp at ho; omega)]
    have e : (((iK x).length : Int)).toNat = (iK x).length := by omega
    rw [e, ih, List.append_assoc]
    rfl
theorem iK_len (l : List Int) : l.length ≤ (l.flatMap iK).length := by
  induction l with
  | nil => simp
  | cons x l ih =>
    rw [List.flatMap_cons, List.length_append, List.length_cons]
    have : 1 ≤ (iK x).length := by unfold iK; split <;> simp
    omega
theorem readInts_of {t word : List UInt8} {l : List Int} (h : ScT t (tW word :: (l.flatMap iK ++ [tE]))) (hc : l.all chipB = true) (hl : l.length ≤ 256) : readIntsR t = .inr (word, l) := by
  have h1 := h.rd
  unfold readIntsR
  generalize opened (scanR t) = s at *
  have hn := h1.now
  have hk : ¬ s.now.kind ≠ 0 := fun h => h hn.1
  dsimp only
  rw [if_neg hk, if_neg (by rw [h1.e]; simp)]
  have h2 := (bare_get h1.t).2.2
  have h3 : l.length ≤ s.ts.length := by
    have := congrArg List.length h1.t
    rw [List.length_map, List.length_cons, List.length_append] at this
    have := iK_len l
    omega
  rw [intsG_of l [] (s.ts.drop 1) s.ts.length h2 hc (by simpa using hl) h3]
  have e : s.now.text = word := hn.2
  rw [e]
  rfl
def intsGl (word : List UInt8) (l : List Int) : List (Nat × Tok) := (0, tW word) :: l.flatMap iG
theorem intsGl_text (word : List UInt8) (l : List Int) : glue (intsGl word l) 0 = word ++ intsT l := by
  unfold intsGl intsT
  show List.replicate 0 32 ++ (word ++ glue (l.flatMap iG) 0) = _
  rw [glue_flat _ _ iG_text]
  rfl
theorem intsGl_tok (word : List UInt8) (l : List Int) : (intsGl word l).map (fun x => x.2.bare) ++ [tE] = tW word :: (l.flatMap iK ++ [tE]) := by
  unfold intsGl
  rw [List.map_cons, map_flat _ _ iG_tok]
  rfl
theorem intsGl_sepd (word : List UInt8) (l : List Int) : sepd false (intsGl word l) := ⟨fun h => absurd h (by decide), sepd_any (sepd_flat _ iG_sepd _) _⟩
theorem intsGl_ok {word : List UInt8} {l : List Int} (hw : wordErr word = 0) (hc : l.all chipB = true) : ∀ y ∈ intsGl word l, okT y.2 := by
  intro y hy
  unfold intsGl at hy
  simp only [List.mem_cons] at hy
  rcases hy with rfl | hy
  · exact okT_W hw
  · obtain ⟨x, hx, hy⟩ := List.mem_flatMap.1 hy
    exact iG_ok (List.all_eq_true.1 hc x hx) y hy

/-! ## Ribbon graphs -/
def lsK : List (List Int) → List Tok
  | [] => []
  | [l] => l.map tN
  | l :: m :: r => l.map tN ++ tS 47 :: lsK (m :: r)
theorem bad_none {es0 : List E} {x : Ln} (h : SortedE (es0 ++ [lnE x])) (hab : x.a ≤ x.b) : ¬ badL es0 x := by
  rintro (h1 | ⟨h1, h2⟩)
  · omega
  · have h3 := h (es0.length - 1) es0.length (by omega) (by simp)
    rw [List.getElem?_append_left (by omega), List.getElem?_append_right (Nat.le_refl _), Nat.sub_self] at h3
    unfold ltE at h3
    simp [lnE] at h3
    omega
theorem Rd.exact {n : Int} (hn : n ≤ 1000000) : ∀ (es es0 : List E) (s : Rs) (f : Nat) (r : List Tok), Rd s (es.flatMap (lnT 45) ++ tS 59 :: r) → (∀ x ∈ es, InE n x ∧ x.a ≤ x.b) → SortedE (es0 ++ es) → es.length ≤ f →
    ∃ s', exactG n f es0 s = (es0 ++ es, s') ∧ Rd s' (tS 59 :: r)
  | [], es0, s, f, r, h, _, _, _ => by
    have h : Rd s (tS 59 :: r) := h
    rw [List.append_nil]
    exact ⟨s, exactG_end (.inr (by rw [h.is]; rfl)) _, h⟩
  | x :: es, es0, s, 0, r, _, _, _, hf => by simp at hf
  | x :: es, es0, s, f + 1, r, h, hin, hso, hf => by
    have hx := hin x (by simp)
    have hstop : ¬ (s.e ≠ 0 ∨ s.is [59] = true) := by
      have h2 : Rd s (tN x.a :: (tS 45 :: tN x.b :: timesK x.m ++ (es.flatMap (lnT 45) ++ tS 59 :: r))) := by
        simpa [lnT, List.append_assoc] using h
      rintro (h3 | h3)
      · exact h3 h.e
      · rw [h2.is] at h3
        simp only [Bool.and_eq_true, decide_eq_true_eq] at h3
        have hb := itoa_natB hx.1.1
        have e : Lib.itoa x.a = [59] := h3.2
        rw [e] at hb
        exact absurd hb (by decide)
    obtain ⟨t, q, htr, hts⟩ : ∃ t q, es.flatMap (lnT 45) ++ tS 59 :: r = t :: q ∧ t.text ≠ [42] := by
      cases es with
      | nil => exact ⟨tS 59, r, rfl, by show [(59 : UInt8)] ≠ [42]; decide⟩
      | cons y es => exact ⟨tN y.a, _, rfl, itoa_star (hin y (by simp)).1.1⟩
    have h3 : Rd s (lnT 45 x ++ t :: q) := by
      rw [← htr, ← List.append_assoc]
      simpa using h
    obtain ⟨pl, s2, e2, h4⟩ := h3.line hn hx.1 hts
    have hs1 : SortedE (es0 ++ [x]) := by
      have hpw := (sorted_iff _).1 hso
      refine (sorted_iff _).2 (hpw.sublist ?_)
      exact List.Sublist.append (List.Sublist.refl _) (List.Sublist.cons_cons _ (List.nil_sublist _))
    rw [← htr] at h4
    obtain ⟨s', e5, h5⟩ := Rd.exact hn es (es0 ++ [x]) s2 f r h4 (fun y hy => hin y (by simp [hy])) (by rw [List.append_assoc]; exact hso) (by simpa using hf)
    refine ⟨s', ?_, h5⟩
    have el : lnE ⟨x.a, x.b, x.m, pl⟩ = x := rfl
    rw [exactG_step hstop f _ _ e2, if_neg (by rw [h4.e]; simp), if_neg (bad_none (by rw [el]; exact hs1) hx.2), el, e5, List.append_assoc]
    rfl
theorem Rd.nums {n half : Int} : ∀ (l l0 : List Int) (ls0 : List (List Int)) (s : Rs) (f : Nat) (t : Tok) (r : List Tok), Rd s (l.map tN ++ t :: r) → l.all (halfB half) = true → half ≤ 1000000 →
    ∃ s', listsG n half (l.length + f) (ls0 ++ [l0]) s = listsG n half f (ls0 ++ [l0 ++ l]) s' ∧ Rd s' (t :: r)
  | [], l0, ls0, s, f, t, r, h, _, _ => ⟨s, by rw [List.append_nil, List.length_nil, Nat.zero_add], h⟩
  | x :: l, l0, ls0, s, f, t, r, h, hc, hh => by
    rw [List.all_cons] at hc
    simp only [Bool.and_eq_true] at hc
    have hx := hc.1
    unfold halfB at hx
    simp only [Bool.and_eq_true, decide_eq_true_eq] at hx
    have h : Rd s (tN x :: (l.map tN ++ t :: r)) := h
    obtain ⟨s1, e1, h1⟩ := h.num (lo := 0) (hi := half - 1) hx.1 (by omega) hx.1 (by omega)
    have hmr : s.more = true := by rw [h.more]; rfl
    have his : s.is [47] = false := by
      rw [h.is]
      have : Lib.itoa x ≠ [47] := fun e => by
        have hb := itoa_natB hx.1
        rw [e] at hb
        exact absurd hb (by decide)
      show (decide _ && decide (Lib.itoa x = [47])) = false
      simp [this]
    obtain ⟨s', e2, h2⟩ := Rd.nums (n := n) (half := half) l (l0 ++ [x]) ls0 s1 f t r h1 hc.2 hh
    refine ⟨s', ?_, h2⟩
    rw [show (x :: l).length + f = (l.length + f) + 1 by simp; omega, listsG_num hmr his, e1]
    dsimp only
    have hp : putLast (ls0 ++ [l0]) x = ls0 ++ [l0 ++ [x]] := by
      unfold putLast
      simp
    rw [hp, e2, List.append_assoc]
    rfl
theorem Rd.lists {n half : Int} (hh : half ≤ 1000000) : ∀ (rs : List (List Int)) (l : List Int) (ls0 : List (List Int)) (s : Rs) (f : Nat), Rd s (lsK (l :: rs) ++ [tE]) → (∀ m ∈ l :: rs, m.all (halfB half) = true) → ((ls0.length + 1 + rs.length : Nat) : Int) ≤ n → (lsK (l :: rs)).length ≤ f →
    ∃ s', listsG n half f (ls0 ++ [[]]) s = (ls0 ++ l :: rs, s') ∧ Rd s' [tE]
  | [], l, ls0, s, f, h, hc, hn, hf => by
    have hf : (l.map tN).length ≤ f := hf
    rw [List.length_map] at hf
    obtain ⟨g, rfl⟩ : ∃ g, f = l.length + g := ⟨f - l.length, by omega⟩
    obtain ⟨s', e1, h1⟩ := Rd.nums (n := n) (half := half) l [] ls0 s g tE [] h (hc l (by simp)) hh
    refine ⟨s', ?_, h1⟩
    rw [e1, listsG_end (by rw [h1.more]; rfl)]
    rfl
  | m :: rs, l, ls0, s, f, h, hc, hn, hf => by
    have hf : (l.map tN ++ tS 47 :: lsK (m :: rs)).length ≤ f := hf
    rw [List.length_append, List.length_map, List.length_cons] at hf
    obtain ⟨g, rfl⟩ : ∃ g, f = l.length + (g + 1) := ⟨f - l.length - 1, by omega⟩
    have h : Rd s ((l.map tN ++ tS 47 :: lsK (m :: rs)) ++ [tE]) := h
    rw [List.append_assoc] at h
    obtain ⟨s1, e1, h1⟩ := Rd.nums (n := n) (half := half) l [] ls0 s (g + 1) (tS 47) (lsK (m :: rs) ++ [tE]) h (hc l (by simp)) hh
    have hmr : s1.more = true := by rw [h1.more]; rfl
    have his : s1.is [47] = true := by rw [h1.is]; rfl
    have hsf : shapeF n (ls0 ++ [[] ++ l]) s1 = s1 := by
      unfold shapeF
      rw [if_neg]
      rw [List.length_append]
      simp only [List.length_cons, List.length_nil] at hn ⊢
      omega
    obtain ⟨s', e2, h2⟩ := Rd.lists (n := n) hh rs m (ls0 ++ [l]) s1.skip g h1.skip (fun q hq => hc q (by simp at hq ⊢; exact .inr hq)) (by simp only [List.length_append, List.length_cons, List.length_nil] at hn ⊢; omega) (by omega)
    refine ⟨s', ?_, h2⟩
    rw [e1, listsG_sep hmr his, hsf]
    have e3 : ls0 ++ [[] ++ l] ++ [[]] = (ls0 ++ [l]) ++ [[]] := by simp
    rw [e3, e2]
    simp
def ribK (g : G) (ls : List (List Int)) : List Tok := tW wRibbon :: tN g.n :: tS 58 :: (g.es.flatMap (lnT 45) ++ tS 59 :: (lsK ls ++ [tE]))
theorem Rd.ribP {g : G} {ls : List (List Int)} {s : Rs} (h : Rd s (ribK g ls)) (hn : 1 ≤ g.n ∧ g.n ≤ 12) (hin : ∀ x ∈ g.es, InE g.n x ∧ x.a ≤ x.b) (hso : SortedE g.es) (hL : (endsOf g.es).length ≤ 7200) (hls : (ls.length : Int) = g.n) (hc : ∀ m ∈ ls, m.all (halfB (2 * ((endsOf g.es).length : Int))) = true) :
    ribP s = ((g, ls), 0, 0) := by
  have h1 := h.need (by show (0 : Int) ≠ 3; decide)
  have h1 : Rd (s.need wRibbon) (tN g.n :: tS 58 :: (g.es.flatMap (lnT 45) ++ tS 59 :: (lsK ls ++ [tE]))) := h1
  obtain ⟨s2, e2, h2⟩ := h1.num (lo := 1) (hi := 12) (by omega) (by omega) hn.1 hn.2
  have h3 := h2.need (by show (2 : Int) ≠ 3; decide)
  have h3 : Rd (s2.need [58]) (g.es.flatMap (lnT 45) ++ tS 59 :: (lsK ls ++ [tE])) := h3
  have hl : g.es.length ≤ (s2.need [58]).ts.length := by
    have := congrArg List.length h3.t
    rw [List.length_map, List.length_append] at this
    have := lnT_len 45 g.es
    omega
  obtain ⟨s4, e4, h4⟩ := Rd.exact (n := g.n) (by omega) g.es [] (s2.need [58]) _ _ h3 hin hso hl
  have h5 := h4.need (by show (2 : Int) ≠ 3; decide)
  have h5 : Rd (s4.need [59]) (lsK ls ++ [tE]) := h5
  obtain ⟨l, rs, rfl⟩ : ∃ l rs, ls = l :: rs := by cases ls with | nil => simp at hls; omega | cons a b => exact ⟨a, b, rfl⟩
  have hl2 : (lsK (l :: rs)).length ≤ (s4.need [59]).ts.length := by
    have := congrArg List.length h5.t
    rw [List.length_map, List.length_append] at this
    omega
  obtain ⟨s6, e6, h6⟩ := Rd.lists (n := g.n) (half := 2 * ((endsOf g.es).length : Int)) (by omega) rs l [] (s4.need [59]) _ h5 hc (by simp only [List.length_cons, List.length_nil] at hls ⊢; omega) hl2
  unfold Go.Proofs.YtemmepgfngkgmaaGreatDoor.ribP Rs.head
  rw [e2]
  dsimp only
  rw [e4]
  dsimp only
  rw [if_neg (by rw [h5.e]; simp), List.nil_append]
  have e7 : listsG g.n (2 * ((endsOf g.es).length : Int)) (s4.need [59]).ts.length [[]] (s4.need [59]) = (l :: rs, s6) := e6
  rw [e7]
  have hf : finL g.n (l :: rs, s6) = s6 := by
    unfold finL
    rw [if_neg (fun h => h.2 hls)]
  rw [hf, if_neg (by rw [h6.e]; simp)]
def lsG : List (List Int) → List (Nat × Tok)
  | [] => []
  | [l] => l.map fun x => (1, tN x)
  | l :: m :: r => (l.map fun x => (1, tN x)) ++ (1, tS 47) :: lsG (m :: r)
theorem nums_text : ∀ l : List Int, glue (l.map fun x => ((1 : Nat), tN x)) 0 = intsT l
  | [] => rfl
  | x :: l => by
    show List.replicate 1 32 ++ (Lib.itoa x ++ glue (l.map fun x => ((1 : Nat), tN x)) 0) = _
    rw [nums_text l]
    simp [intsT]
theorem lsG_text : ∀ ls : List (List Int), glue (lsG ls) 0 = joinT [32, 47] (ls.map intsT)
  | [] => rfl
  | [l] => by show glue (l.map fun x => ((1 : Nat), tN x)) 0 = _; rw [nums_text]; rfl
  | l :: m :: r => by
    show glue ((l.map fun x => ((1 : Nat), tN x)) ++ (1, tS 47) :: lsG (m :: r)) 0 = _
    rw [glue_app, nums_text]
    show intsT l ++ (List.replicate 1 32 ++ ([47] ++ glue (lsG (m :: r)) 0)) = intsT l ++ [32, 47] ++ joinT [32, 47] ((m :: r).map intsT)
    rw [lsG_text (m :: r)]
    simp
theorem nums_tok (l : List Int) : (l.map fun x => ((1 : Nat), tN x)).map (fun y => y.2.bare) = l.map tN := by rw [List.map_map]; rfl
theorem lsG_tok : ∀ ls : List (List Int), (lsG ls).map (fun y => y.2.bare) = lsK ls
  | [] => rfl
  | [l] => nums_tok l
  | l :: m :: r => by
    show ((l.map fun x => ((1 : Nat), tN x)) ++ (1, tS 47) :: lsG (m :: r)).map _ = l.map tN ++ tS 47 :: lsK (m :: r)
    rw [List.map_append, nums_tok, List.map_cons, lsG_tok (m :: r)]
    rfl
theorem nums_sepd : ∀ l : List Int, sepd true (l.map fun x => ((1 : Nat), tN x))
  | [] => trivial
  | x :: l => ⟨fun _ _ => by decide, sepd_any (nums_sepd l) _⟩
theorem lsG_sepd : ∀ ls : List (List Int), sepd true (lsG ls)
  | [] => trivial
  | [l] => nums_sepd l
  | l :: m :: r => sepd_app _ _ _ (nums_sepd l) ⟨fun _ _ => by decide, sepd_any (lsG_sepd (m :: r)) _⟩
theorem nums_ok {l : List Int} (h : ∀ x ∈ l, 0 ≤ x ∧ x ≤ 1099511627776) : ∀ y ∈ l.map fun x => ((1 : Nat), tN x), okT y.2 := by
  intro y hy
  obtain ⟨x, hx, rfl⟩ := List.mem_map.1 hy
  exact okT_N (h x hx).1 (h x hx).2
theorem lsG_ok : ∀ ls : List (List Int), (∀ l ∈ ls, ∀ x ∈ l, 0 ≤ x ∧ x ≤ 1099511627776) → ∀ y ∈ lsG ls, okT y.2
  | [], _ => fun y hy => by cases hy
  | [l], h => nums_ok (h l (by simp))
  | l :: m :: r, h => by
    intro y hy
    have hy : y ∈ (l.map fun x => ((1 : Nat), tN x)) ++ (1, tS 47) :: lsG (m :: r) := hy
    rcases List.mem_append.1 hy with hy | hy
    · exact nums_ok (h l (by simp)) y hy
    · rcases List.mem_cons.1 hy with rfl | hy
      · exact okT_S (by decide)
      · exact lsG_ok (m :: r) (fun q hq => h q (by simp at hq ⊢; exact .inr hq)) y hy
def ribGl (g : G) (ls : List (List Int)) : List (Nat × Tok) := tabGl wRibbon 45 g ++ (1, tS 59) :: lsG ls
theorem ribGl_text (g : G) (ls : List (List Int)) : glue (ribGl g ls) 0 = wRibbon ++ 32 :: (tabT 45 g ++ 32 :: 59 :: joinT [32, 47] (ls.map intsT)) := by
  unfold ribGl
  rw [glue_app, tabGl_text]
  show _ ++ (List.replicate 1 32 ++ ([59] ++ glue (lsG ls) 0)) = _
  rw [lsG_text]
  simp
theorem ribGl_tok (g : G) (ls : List (List Int)) : (ribGl g ls).map (fun x => x.2.bare) ++ [tE] = ribK g ls := by
  unfold ribGl ribK tabGl
  simp only [List.map_append, List.map_cons, List.cons_append]
  rw [map_flat _ _ (lnG_tok 45), lsG_tok]
  simp
  exact ⟨rfl, rfl, rfl, rfl⟩
theorem ribGl_sepd (g : G) (ls : List (List Int)) : sepd false (ribGl g ls) :=
  sepd_app _ _ _ (tabGl_sepd wRibbon 45 g) ⟨fun _ _ => by decide, sepd_any (lsG_sepd ls) _⟩

end Go.Proofs.YtemmepgfngkgmaaGreatDoor
