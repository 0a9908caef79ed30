/-
  What is read is written and read back: plain.
-/
import Derived.Test.YtemmepgfngkgmaaGreatDoorN63
import Derived.Test.YtemmepgfngkgmaaGreatDoorN57
namespace Go.Proofs.YtemmepgfngkgmaaGreatDoor
open Go.RowKit
set_option linter.unusedVariables false
set_option linter.unusedSimpArgs false

/-! ## Tables -/
theorem addE_le {es : List E} (hs : SortedE es) (h : ∀ x ∈ es, x.a ≤ x.b) {a b m : Int} (hab : a ≤ b) : ∀ x ∈ addE es a b m, x.a ≤ x.b := by
  obtain ⟨T, D, _, _, _, h1, h2⟩ := addE_split hs a b m
  intro x hx
  rw [h1] at hx
  rcases List.mem_append.1 hx with hx | hx
  · rcases h2 with h2 | h2 <;> exact h x (by rw [h2]; simp [hx])
  · rcases List.mem_cons.1 hx with rfl | hx
    · exact hab
    · rcases h2 with h2 | h2 <;> exact h x (by rw [h2]; simp [hx])
theorem tabL_le (sign : UInt8) (n : Int) : ∀ f (es : List E) (s : Rs), SortedE es → (∀ x ∈ es, x.a ≤ x.b) → ∀ x ∈ (tabL sign true n f es s).1, x.a ≤ x.b
  | 0, es, s, _, h => h
  | f + 1, es, s, hs, h => by
    unfold tabL
    by_cases hm : s.more = false
    · rw [if_pos hm]; exact h
    · rw [if_neg hm]
      dsimp only
      have hab : lo true (s.line sign n).1 ≤ hi true (s.line sign n).1 := by unfold lo hi; simp; omega
      split
      · exact h
      · split
        · exact addE_le hs h hab
        · exact tabL_le sign n f _ _ (addE_sorted hs _ _ _) (addE_le hs h hab)
/-- A graph that was read is right, and its text is short. -/
theorem table_gok {s : Rs} (hs : TsOk s.ts) {g : G} {pl : Int} (h : tableP wGraph 45 true s = (g, pl, 0)) : Gok g ∧ (graphR g).1 = 0 := by
  have hk : Gok g := by
    unfold tableP at h
    dsimp only at h
    have hts := need_ts (num_ts (need_ts hs wGraph).1 1 12).1 [58]
    have hh := head_ok (word := wGraph) (s := s)
    have hts : TsOk (s.head wGraph).2.ts := hts.1
    generalize s.head wGraph = hd at *
    obtain ⟨n, s1⟩ := hd
    dsimp only at h hts hh
    by_cases he : (tabL 45 true n s1.ts.length [] s1).2.e ≠ 0
    · rw [if_pos he] at h
      have := congrArg (fun z : G × Int × Int => z.2.2) h
      exact absurd this he
    · rw [if_neg he] at h
      have h1 : s1.e = 0 := by
        by_cases h1 : s1.e = 0
        · exact h1
        · rw [tabL_end _ _ _ _ _ _ (not_more h1)] at he; exact absurd h1 he
      have hn := hh h1
      have hr := (tab_eq 45 true n s1.ts.length [] (fun _ _ => 0) s1 hts (RelM.nil n)).2 (by omega)
      have hle := tabL_le 45 n s1.ts.length [] s1 (fun j k _ hk => absurd hk (by simp)) (fun x hx => by cases hx)
      generalize (tabL 45 true n s1.ts.length [] s1).1 = es at *
      have hg : (⟨n, es⟩ : G) = g := congrArg (fun z : G × Int × Int => z.1) h
      rw [← hg]
      show checkErr ⟨n, es⟩ = 0
      have hed : EdOk n es := fun k hk => by
        have hx := hr.r es[k] (List.getElem_mem hk)
        have hx2 := hle es[k] (List.getElem_mem hk)
        unfold edgeErr
        rw [if_neg]
        · rw [if_neg]
          · rw [if_neg]
            rintro ⟨h0, h2⟩
            have h3 := hr.s (k - 1) k (by omega) hk
            unfold ltE at h3
            simp at h3 h2
            omega
          · dsimp only
            rw [List.getElem?_eq_getElem hk]
            show ¬ es[k].b < es[k].a
            omega
        · dsimp only
          rw [List.getElem?_eq_getElem hk]
          unfold vtx
          simp
          omega
      exact hed.check hn.1 hn.2
  refine ⟨hk, ?_⟩
  have h0 := hk.n
  have h1 := itoa_low (n := g.n) (by omega) (by omega)
  have h2 := arcsT_len (sign := 45) (gok_low hk)
  have h3 := hk.len
  have hk2 : checkErr g = 0 := hk
  unfold graphR
  rw [if_neg (by omega)]
  unfold limR
  rw [if_neg]
  unfold tabT
  simp [wGraph]
  omega

/-! ## Ribbon graphs: how long the text is -/
def wt (ts : List Tok) : Nat := (ts.map fun t => t.text.length).sum
theorem wt_skip {s : Rs} (h : 0 < s.ts.length) : wt s.ts = s.now.text.length + wt s.skip.ts := by
  unfold Rs.now Rs.skip
  cases hts : s.ts with
  | nil => rw [hts] at h; simp at h
  | cons t r => simp [wt]
theorem num_wt {s : Rs} (hs : TsOk s.ts) {lo hi : Int} (h : (s.num lo hi).2.e = 0) : wt (s.num lo hi).2.ts + (Lib.itoa (s.num lo hi).1).length ≤ wt s.ts := by
  have hw := wt_skip hs.1
  obtain ⟨h0, hk, h3, _⟩ := num_ok h
  unfold Rs.num at h h3 ⊢
  rw [if_neg (by rw [h0, hk]; simp)] at h h3 ⊢
  by_cases h2 : (natR s.now.text).2 ≠ 0 ∨ (natR s.now.text).1 < lo ∨ hi < (natR s.now.text).1
  · rw [if_pos h2] at h
    exact (fail_e (by decide) h).elim
  · rw [if_neg h2]
    have := natR_len (t := s.now.text) (by omega)
    dsimp only
    omega
theorem need_wt {s : Rs} (hs : TsOk s.ts) {t : List UInt8} (h : (s.need t).e = 0) : wt (s.need t).ts + t.length = wt s.ts := by
  have hw := wt_skip hs.1
  obtain ⟨h1, h2⟩ := need_ok h
  rw [h2]
  have ht : s.now.text = t := by
    unfold Rs.is at h1
    simp only [Bool.and_eq_true, decide_eq_true_eq] at h1
    exact h1.2
  rw [ht] at hw
  omega
theorem mul_wt {s : Rs} (hs : TsOk s.ts) (h : s.mul.2.e = 0) : wt s.mul.2.ts + (timesT s.mul.1).length ≤ wt s.ts := by
  unfold Rs.mul at h ⊢
  cases hi : s.is [42] with
  | true =>
    rw [hi, if_pos rfl] at h
    rw [if_pos rfl]
    obtain ⟨q1, q2⟩ := kind_len hs (Rs.is_kind hi).1
    have hw := wt_skip hs.1
    have h3 := num_wt q1 h
    have ht : s.now.text = [42] := by
      unfold Rs.is at hi
      simp only [Bool.and_eq_true, decide_eq_true_eq] at hi
      exact hi.2
    rw [ht] at hw
    simp only [List.length_cons, List.length_nil] at hw
    unfold timesT
    split
    · simp; omega
    · simp only [List.length_cons]; omega
  | false =>
    rw [if_neg (by decide)]
    show wt s.ts + (timesT 1).length ≤ _
    have : timesT 1 = [] := rfl
    rw [this]
    simp
theorem line_wt {s : Rs} (hs : TsOk s.ts) {sign : UInt8} {n : Int} (h : (s.line sign n).2.e = 0) : 2 * wt (s.line sign n).2.ts + (arcT sign (lnE (s.line sign n).1)).length ≤ 2 * wt s.ts := by
  unfold Rs.line at h ⊢
  dsimp only at h ⊢
  obtain ⟨a1, a2, a3⟩ := num_ts hs 0 (n - 1)
  obtain ⟨b1, b2⟩ := need_ts a1 [sign]
  obtain ⟨c1, c2, c3⟩ := num_ts b1 0 (n - 1)
  obtain ⟨d1, d2, d3⟩ := mul_ts c1
  have e1 := (d3 h).1
  have f1 := (num_ok e1).1
  have g1 := need_e f1
  have w1 := num_wt hs g1
  have w2 := need_wt a1 f1
  have w3 := num_wt b1 e1
  have w4 := mul_wt c1 h
  unfold arcT lnE
  simp only [List.length_cons, List.length_append, List.length_nil] at w2 ⊢
  omega
theorem exactG_wt (n : Int) : ∀ f (es : List E) (s : Rs), TsOk s.ts → (exactG n f es s).2.e = 0 → (arcsT 45 (exactG n f es s).1).length + 2 * wt (exactG n f es s).2.ts ≤ (arcsT 45 es).length + 2 * wt s.ts
  | 0, es, s, _, _ => Nat.le_refl _
  | f + 1, es, s, ht, he => by
    by_cases hs : s.e ≠ 0 ∨ s.is [59] = true
    · rw [exactG_end hs]; exact Nat.le_refl _
    · have hl := line_ts ht 45 n
      have hw := line_wt ht (sign := 45) (n := n)
      rw [exactG_step hs f (s.line 45 n).1 (s.line 45 n).2 rfl] at he ⊢
      generalize s.line 45 n = p at *
      by_cases h1 : p.2.e ≠ 0
      · rw [if_pos h1] at he; exact absurd he h1
      · rw [if_neg h1] at he ⊢
        by_cases h2 : badL es p.1
        · rw [if_pos h2] at he; exact (fail_e (by decide) he).elim
        · rw [if_neg h2] at he ⊢
          have ih := exactG_wt n f _ _ hl.1 he
          have h3 := hw (by omega)
          have h4 : (arcsT 45 (es ++ [lnE p.1])).length = (arcsT 45 es).length + (arcT 45 (lnE p.1)).length := by
            unfold arcsT
            rw [List.flatMap_append, List.length_append]
            simp
          omega
def LT (ls : List (List Int)) : Nat := (joinT [32, 47] (ls.map intsT)).length
theorem LT_put {ls : List (List Int)} (h : ls ≠ []) (x : Int) : LT (putLast ls x) = LT ls + 1 + (Lib.itoa x).length := by
  have e : ls = ls.dropLast ++ [ls.getLast?.getD []] := by
    rw [List.getLast?_eq_some_getLast h]
    exact (List.dropLast_concat_getLast h).symm
  unfold LT
  conv => rhs; rw [e]
  unfold putLast
  generalize ls.getLast?.getD [] = l
  generalize ls.dropLast = q
  rw [List.map_append, List.map_append]
  simp only [List.map_cons, List.map_nil]
  rw [joinT_snoc, joinT_snoc]
  simp only [List.length_append]
  have : (intsT (l ++ [x])).length = (intsT l).length + (1 + (Lib.itoa x).length) := by
    unfold intsT
    rw [List.flatMap_append, List.length_append]
    simp
    omega
  omega
theorem LT_push {ls : List (List Int)} (h : ls ≠ []) : LT (ls ++ [[]]) = LT ls + 2 := by
  unfold LT
  rw [List.map_append]
  simp only [List.map_cons, List.map_nil]
  rw [joinT_snoc, if_neg (by simpa using h)]
  simp [intsT]
/-- All rows in range, when the lists are read without an error. -/
theorem listsG_all (n half : Int) : ∀ f (ls : List (List Int)) (s : Rs), TsOk s.ts → ls ≠ [] → (∀ l ∈ ls, l.all (halfB half) = true) → (listsG n half f ls s).2.e = 0 →
    (∀ l ∈ (listsG n half f ls s).1, l.all (halfB half) = true) ∧ LT (listsG n half f ls s).1 + 2 * wt (listsG n half f ls s).2.ts ≤ LT ls + 2 * wt s.ts
  | 0, ls, s, _, _, h, _ => ⟨h, Nat.le_refl _⟩
  | f + 1, ls, s, ht, hne, h, he => by
    cases hm : s.more with
    | false => rw [listsG_end hm]; exact ⟨h, Nat.le_refl _⟩
    | true =>
      cases hi : s.is [47] with
      | false =>
        rw [listsG_num hm hi] at he ⊢
        have hnt := num_ts ht 0 (half - 1)
        have hnk : (s.num 0 (half - 1)).2.e = 0 := by
          by_cases h1 : (s.num 0 (half - 1)).2.e = 0
          · exact h1
          · rw [listsG_end (not_more h1)] at he; exact absurd he h1
        have hw := num_wt ht hnk
        have hno := num_ok hnk
        have hp : putLast ls (s.num 0 (half - 1)).1 ≠ [] := by unfold putLast; simp
        have hal : ∀ l ∈ putLast ls (s.num 0 (half - 1)).1, l.all (halfB half) = true := by
          intro l hl
          unfold putLast at hl
          rcases List.mem_append.1 hl with hl | hl
          · exact h l ((List.dropLast_sublist ls).mem hl)
          · rw [List.mem_singleton.1 hl, List.all_append]
            have h1 : (ls.getLast?.getD []).all (halfB half) = true := by
              rw [List.getLast?_eq_some_getLast hne]
              exact h _ (List.getLast_mem hne)
            rw [h1]
            unfold halfB
            simp
            omega
        have ih := listsG_all n half f _ _ hnt.1 hp hal he
        refine ⟨ih.1, ?_⟩
        have hl := LT_put hne (s.num 0 (half - 1)).1
        have hi1 : 1 ≤ (Lib.itoa (s.num 0 (half - 1)).1).length := by
          rw [itoa_nat hno.2.2.2.1, Lib.decDigits_length]
          exact Lib.nDigits_pos _
        have ih2 := ih.2
        omega
      | true =>
        rw [listsG_sep hm hi] at he ⊢
        have hk := kind_len ht (Rs.is_kind hi).1
        have hsk : (shapeF n ls s).skip.ts = s.skip.ts := by show (shapeF n ls s).ts.drop 1 = s.ts.drop 1; rw [shapeF_ts]
        have ih := listsG_all n half f (ls ++ [[]]) (shapeF n ls s).skip (by rw [hsk]; exact hk.1) (by simp) (fun l hl => by
          rcases List.mem_append.1 hl with hl | hl
          · exact h l hl
          · rw [List.mem_singleton.1 hl]; rfl) he
        refine ⟨ih.1, ?_⟩
        have hl := LT_push hne
        have hw := wt_skip ht.1
        have htx : s.now.text = [47] := by
          unfold Rs.is at hi
          simp only [Bool.and_eq_true, decide_eq_true_eq] at hi
          exact hi.2
        rw [htx] at hw
        simp only [List.length_cons, List.length_nil] at hw
        have ih2 := ih.2
        rw [hsk] at ih2
        omega
theorem scan_sumN : ∀ (n : Nat) (s : List UInt8) (p : Nat) (l : List Tok), s.length < n → fuelS s p = .inr l → (l.map fun t => t.text.length).sum ≤ s.length
  | 0, _, _, _, h, _ => by omega
  | n + 1, [], p, l, _, h => by rw [fuelS_end] at h; injection h with h; rw [← h]; simp
  | n + 1, c :: r, p, l, hn, h => by
    simp only [List.length_cons] at hn
    by_cases hc : c = 32
    · subst hc; rw [fuelS_blank] at h
      have := scan_sumN n r (p + 1) l (by omega) h
      simp only [List.length_cons]; omega
    · by_cases he : tokErr (kindOf c) (runOf (c :: r)) = 0
      · rw [fuelS_tok c r p hc he] at h
        have hr := runOf_len c r
        cases hz : fuelS ((c :: r).drop (runOf (c :: r)).length) (p + (runOf (c :: r)).length) with
        | inl x => rw [hz] at h; simp [Scn.pre] at h
        | inr l1 =>
          rw [hz] at h
          simp only [Scn.pre] at h
          injection h with h
          have := scan_sumN n _ _ l1 (by rw [List.length_drop]; simp only [List.length_cons] at *; omega) hz
          rw [List.length_drop] at this
          rw [← h]; simp only [List.map_append, List.map_cons, List.map_nil, List.sum_append, List.sum_cons, List.sum_nil, List.length_cons] at *; omega
      · rw [fuelS_err c r p hc he] at h; exact absurd h (by simp)
theorem opened_wt (t : List UInt8) : wt (opened (scanR t)).ts ≤ t.length := by
  unfold opened
  cases h : scanR t with
  | inl x => simp [wt]
  | inr l => exact scan_sumN (t.length + 1) t 0 l (by omega) (scanR_fuel h).2
theorem head_wt {s : Rs} (hs : TsOk s.ts) {word : List UInt8} (h : (s.head word).2.e = 0) : wt (s.head word).2.ts + word.length + (Lib.itoa (s.head word).1).length + 1 ≤ wt s.ts := by
  unfold Rs.head at h ⊢
  dsimp only at h ⊢
  have a1 := need_ts hs word
  have b1 := num_ts a1.1 1 12
  have h1 := need_e h
  have h2 := (num_ok h1).1
  have w1 := need_wt hs h2
  have w2 := num_wt a1.1 h1
  have w3 := need_wt b1.1 h
  simp only [List.length_cons, List.length_nil] at w3
  omega
/-- A ribbon graph that was read is written and read back. -/
theorem rib_back {t : List UInt8} (ht : t.length ≤ 1500) {g : G} {ls : List (List Int)} {pl : Int} (h : ribP (opened (scanR t)) = ((g, ls), pl, 0)) :
    (ribR g ls).1 = 0 ∧ ribP (opened (scanR (ribR g ls).2)) = ((g, ls), 0, 0) ∧ ls.length ≤ 10000 ∧ ∀ j : Nat, (ls[j]?.getD []).length ≤ 10000 := by
  have hok := opened_ok t
  have hwt := opened_wt t
  generalize opened (scanR t) = s at *
  unfold ribP at h
  dsimp only at h
  have hts : TsOk (s.head wRibbon).2.ts := (need_ts (num_ts (need_ts hok wRibbon).1 1 12).1 [58]).1
  have hh := head_ok (word := wRibbon) (s := s)
  have hhw := head_wt hok (word := wRibbon)
  generalize s.head wRibbon = hd at *
  obtain ⟨n, s1⟩ := hd
  dsimp only at h hts hh hhw
  have hxc := exact_check (n := n) (s := s1) hh hts
  have hxt := exactG_ts n s1.ts.length [] s1 hts
  have hxw := exactG_wt n s1.ts.length [] s1 hts
  generalize exactG n s1.ts.length [] s1 = x at *
  obtain ⟨es, s2⟩ := x
  dsimp only at h hxc hxt hxw
  by_cases he : (s2.need [59]).e ≠ 0
  · rw [if_pos he] at h
    exact absurd (congrArg (fun z : (G × List (List Int)) × Int × Int => z.2.2) h) he
  rw [if_neg he] at h
  have he : (s2.need [59]).e = 0 := by omega
  obtain ⟨hck, he1⟩ := hxc he
  have hn := hh he1
  have hxw := hxw (need_e he)
  have hnw := need_wt hxt he
  have hnt := (need_ts hxt [59]).1
  have hhw := hhw he1
  have hal := listsG_all n (2 * ((endsOf es).length : Int)) (s2.need [59]).ts.length [[]] (s2.need [59]) hnt (by simp) (fun l hl => by rw [List.mem_singleton.1 hl]; rfl)
  generalize listsG n (2 * ((endsOf es).length : Int)) (s2.need [59]).ts.length [[]] (s2.need [59]) = y at *
  obtain ⟨ls', s3⟩ := y
  dsimp only at hal
  by_cases hf : (finL n (ls', s3)).e ≠ 0
  · rw [if_pos hf] at h
    exact absurd (congrArg (fun z : (G × List (List Int)) × Int × Int => z.2.2) h) hf
  rw [if_neg hf] at h
  have hg : (⟨n, es⟩ : G) = g := congrArg (fun z : (G × List (List Int)) × Int × Int => z.1.1) h
  have hl : ls' = ls := congrArg (fun z : (G × List (List Int)) × Int × Int => z.1.2) h
  subst hl
  have h3 : s3.e = 0 ∧ (ls'.length : Int) = n := by
    unfold finL at hf
    by_cases hc : (ls', s3).2.e = 0 ∧ ((ls', s3).1.length : Int) ≠ n
    · rw [if_pos hc] at hf
      exact (hf (fun hh => fail_e (by decide) hh)).elim
    · rw [if_neg hc] at hf
      have hf : s3.e = 0 := by
        have : ¬ s3.e ≠ 0 := hf
        omega
      refine ⟨hf, ?_⟩
      by_cases hq : (ls'.length : Int) = n
      · exact hq
      · exact (hc ⟨hf, hq⟩).elim
  obtain ⟨ha1, ha2⟩ := hal h3.1
  rw [← hg]
  have hk : Gok ⟨n, es⟩ := hck
  have hin := gok_in hk
  have hso := gok_sorted hk
  have hsb : (endsOf es).length ≤ 7200 := by
    have h1 := endsOf_len es 50 (fun y hy => by have := hk.mem hy; omega)
    have := hk.len
    have h2 : es.length ≤ 144 := this
    omega
  have hLT : LT [[]] = 0 := rfl
  have htx : (wRibbon ++ 32 :: (tabT 45 (⟨n, es⟩ : G) ++ 32 :: 59 :: joinT [32, 47] (ls'.map intsT))).length ≤ 4096 := by
    have e1 : (joinT [32, 47] (ls'.map intsT)).length = LT ls' := rfl
    have e2 : wRibbon.length = 6 := rfl
    have e3 : arcsT 45 [] = [] := rfl
    rw [e3] at hxw
    simp only [List.length_nil] at hxw
    simp only [List.length_cons, List.length_nil] at hnw
    unfold tabT
    simp only [List.length_append, List.length_cons, e1, e2]
    rw [e2] at hhw
    omega
  have hLT2 : LT ls' ≤ 4096 := by
    have e1 : (joinT [32, 47] (ls'.map intsT)).length = LT ls' := rfl
    have h := htx
    simp only [List.length_append, List.length_cons, e1] at h
    omega
  have hr : ribR (⟨n, es⟩ : G) ls' = (0, wRibbon ++ 32 :: (tabT 45 (⟨n, es⟩ : G) ++ 32 :: 59 :: joinT [32, 47] (ls'.map intsT))) := by
    unfold ribR
    rw [if_neg (by have : checkErr (⟨n, es⟩ : G) = 0 := hck; omega), if_neg (by simpa using h3.2), if_neg (by rw [Bool.not_eq_false, List.all_eq_true]; exact ha1)]
    unfold limR
    rw [if_neg (by omega)]
  have hrange : ∀ l ∈ ls', ∀ x ∈ l, 0 ≤ x ∧ x ≤ 1099511627776 := fun l hl x hx => by
    have h1 := List.all_eq_true.1 (ha1 l hl) x hx
    unfold halfB at h1
    simp at h1
    omega
  rw [hr]
  refine ⟨rfl, ?_, by omega, fun j => ?_⟩
  · dsimp only
    rw [← ribGl_text] at htx ⊢
    have hok2 : ∀ y ∈ ribGl (⟨n, es⟩ : G) ls', okT y.2 := by
      intro y hy
      unfold ribGl at hy
      rcases List.mem_append.1 hy with hy | hy
      · exact tabGl_ok (word := wRibbon) (sign := 45) (g := ⟨n, es⟩) (by decide) (by decide) hn (fun x hx => (hin x hx).1) y hy
      · rcases List.mem_cons.1 hy with rfl | hy
        · exact okT_S (by decide)
        · exact lsG_ok ls' hrange y hy
    have hs := scan_of_glue _ hok2 (ribGl_sepd _ _) htx
    rw [ribGl_tok] at hs
    exact Rd.ribP hs.rd hn hin hso hsb h3.2 ha1
  · by_cases hj : j < ls'.length
    · rw [List.getElem?_eq_getElem hj]
      show (ls'[j]).length ≤ 10000
      have h1 : (intsT ls'[j]).length ≤ LT ls' := by
        unfold LT
        have h2 := joinT_take [32, 47] (ls'.map intsT) j (by rw [List.length_map]; exact hj)
        have h3 := joinT_mono [32, 47] (ls'.map intsT) (ls'.length - (j + 1)) (j + 1) (by rw [List.length_map]; omega)
        rw [show j + 1 + (ls'.length - (j + 1)) = (ls'.map intsT).length by rw [List.length_map]; omega, List.take_length, h2, List.length_append] at h3
        have e : ((ls'.map intsT)[j]?.getD []) = intsT ls'[j] := by rw [List.getElem?_map, List.getElem?_eq_getElem hj]; rfl
        rw [e] at h3
        omega
      have h4 : ∀ l : List Int, l.length ≤ (intsT l).length := by
        intro l
        induction l with
        | nil => simp
        | cons x l ih =>
          unfold intsT at ih ⊢
          rw [List.flatMap_cons, List.length_append, List.length_cons, List.length_cons]
          omega
      have := h4 ls'[j]
      omega
    · rw [List.getElem?_eq_none (by omega)]
      simp

end Go.Proofs.YtemmepgfngkgmaaGreatDoor
