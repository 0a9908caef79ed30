/-
  lexer.Normal, for the notation's seat.
-/
import Derived.Test.YtemmepgfngkgmaaGreatDoorK15
import Derived.Test.YtemmepgfngkgmaaGreatDoorN60
namespace Go.Proofs.YtemmepgfngkgmaaGreatDoor
open Go.RowKit
set_option linter.unusedVariables false
set_option linter.unusedSimpArgs false

theorem scan_count : ∀ (n : Nat) (s : List UInt8) (p : Nat) (l : List Tok), s.length < n → fuelS s p = .inr l → l.length ≤ s.length + 1
  | 0, _, _, _, h, _ => by omega
  | n + 1, [], p, l, _, h => by rw [fuelS_end] at h; injection h with h; rw [← h]; simp
  | n + 1, c :: r, p, l, hn, h => by
    simp only [List.length_cons] at hn
    by_cases hc : c = 32
    · subst hc; rw [fuelS_blank] at h
      have := scan_count n r (p + 1) l (by omega) h
      simp only [List.length_cons]; omega
    · by_cases he : tokErr (kindOf c) (runOf (c :: r)) = 0
      · rw [fuelS_tok c r p hc he] at h
        have hr := runOf_len c r
        cases hz : fuelS ((c :: r).drop (runOf (c :: r)).length) (p + (runOf (c :: r)).length) with
        | inl x => rw [hz] at h; simp [Scn.pre] at h
        | inr l1 =>
          rw [hz] at h
          simp only [Scn.pre] at h
          injection h with h
          have := scan_count n _ _ l1 (by rw [List.length_drop]; simp only [List.length_cons] at *; omega) hz
          rw [List.length_drop] at this
          rw [← h]; simp only [List.length_append, List.length_cons, List.length_nil] at *; omega
      · rw [fuelS_err c r p hc he] at h; exact absurd h (by simp)
theorem scanR_count (s : List UInt8) : (Scn.toks (scanR s)).length ≤ 4097 := by
  unfold scanR
  by_cases h : 4096 < s.length
  · rw [if_pos h]; simp [Scn.toks]
  · rw [if_neg h]
    cases hz : scanG (s.length + 1) s 0 with
    | inl x => simp [Scn.toks]
    | inr l => have := scan_count (s.length + 1) s 0 l (by omega) hz; simp only [Scn.toks]; omega

/-- A text that is scanned, whatever it is: what comes back, with the tokens in memory. -/
def GotScan (z : Scn) (w : World) (e : Ending) (w' : World) : Prop :=
  ∃ v, e = .returned (.tuple #[v, .int .i64 z.at', .int .i64 z.no]) ∧ ToksR w' v z.toks ∧ Below w.heap.size w w'
theorem got_p (s : List UInt8) (w : World) : Calls Tryz.prog 90 #[.string (str s)] w (GotScan (scanR s) w) :=
  (p_Scan s w).mono fun e w' ⟨v, h1, h2, h3⟩ => ⟨v, h1, owns_toks h2 (by have := scanR_count s; omega), h3⟩

theorem okT_len {t : Tok} (h : okT t) : t.text.length ≤ 1024 := by
  refine form_len t true ?_
  unfold formErr
  have h3 : t.kind ≠ 3 := by rcases h.1 with h | h | h <;> omega
  rw [if_neg h3, if_pos h.1, if_pos h.2]

theorem scanR_fuel {s : List UInt8} {l : List Tok} (h : scanR s = .inr l) : s.length ≤ 4096 ∧ fuelS s 0 = .inr l := by
  unfold scanR at h
  by_cases h4 : 4096 < s.length
  · rw [if_pos h4] at h; exact absurd h (by simp)
  · rw [if_neg h4] at h; exact ⟨by omega, h⟩
theorem scanR_back {s : List UInt8} {z : Scn} (h4 : s.length ≤ 4096) (h : fuelS s 0 = z) : scanR s = z := by
  unfold scanR; rw [if_neg (by omega)]; exact h
theorem scanR_toks {s : List UInt8} {l : List Tok} (h : scanR s = .inr l) : ∃ l0 q, l = l0 ++ [⟨3, [], q⟩] ∧ ∀ t ∈ l0, okT t :=
  scan_ok (s.length + 1) s 0 l (by omega) (scanR_fuel h).2
theorem scanR_texts {s : List UInt8} {l : List Tok} (h : scanR s = .inr l) (k : Nat) : (l[k]?.getD default).text.length ≤ 1024 := by
  obtain ⟨l0, q, rfl, ho⟩ := scanR_toks h
  by_cases hk : k < l0.length
  · rw [List.getElem?_append_left hk, List.getElem?_eq_getElem hk]; exact okT_len (ho _ (List.getElem_mem hk))
  · rw [List.getElem?_append_right (by omega)]
    by_cases hk2 : k - l0.length = 0
    · rw [hk2]; simp
    · rw [List.getElem?_eq_none (by simp; omega)]; exact Nat.zero_le _
theorem scanR_err {s : List UInt8} {x : Int × Int} (h : scanR s = .inl x) : x.2 ≠ 0 := by
  unfold scanR at h
  by_cases h4 : 4096 < s.length
  · rw [if_pos h4] at h; injection h with h; rw [← h]; decide
  · rw [if_neg h4] at h; exact (scan_err_at (s.length + 1) s 0 x (by omega) h).2.2


/-- The normal text of a text, or the offset and the error. -/
def normR (s : List UInt8) : List UInt8 × Int × Int := match scanR s with | .inl x => ([], x.1, x.2) | .inr l => ((joinR l).2, 0, (joinR l).1)

def NormPost (f : Nat) (s : List UInt8) : Prop := ∀ w : World, Calls Tryz.prog f #[.string (str s)] w fun e w' => e = .returned (.tuple #[.string (str (normR s).1), .int .i64 (normR s).2.1, .int .i64 (normR s).2.2]) ∧ Below w.heap.size w w'

set_option maxRecDepth 100000 in
set_option maxHeartbeats 4000000 in
theorem p_Normal (s : List UInt8) : NormPost 38 s := by
  intro w
  have hG := hid (got_p s w)
  cases hz : scanR s with
  | inl x =>
    have hx := scanR_err hz
    have hn : normR s = ([], x.1, x.2) := by unfold normR; rw [hz]
    rw [hn]
    rw [hz] at hG
    obtain ⟨x1, x2⟩ := x
    have hx' : (x2 != 0) = true := by simpa using hx
    clear hx hz hn
    go_enter Tryz.func38, Tryz.ntmps38
    go_wp2_with fail
    refine hG.out.mono ?_
    rintro e w1 ⟨v, rfl, _, hB⟩
    show _
    simp only [Scn.at', Scn.no]
    go_simp
    go_wp2_with fail
    go_ret3
    exact ⟨rfl, hB⟩
  | inr l =>
    have hn : normR s = ((joinR l).2, 0, (joinR l).1) := by unfold normR; rw [hz]
    rw [hn]
    rw [hz] at hG
    have hJ := hid (fun v w1 (hv : ToksR w1 v l) => p_Join l v w1 hv (fun _ k => by have := scanR_texts hz k; omega))
    generalize (joinR l).2 = js at *
    generalize (joinR l).1 = er at *
    clear hz hn
    go_enter Tryz.func38, Tryz.ntmps38
    go_wp2_with fail
    refine hG.out.mono ?_
    rintro e w1 ⟨v, rfl, hv, hB⟩
    simp only [Scn.at', Scn.no]
    go_simp
    go_wp2_with fail
    refine (hJ.out _ _ hv).mono ?_
    rintro e w2 ⟨rfl, hB2⟩
    go_simp
    go_wp2_with fail
    go_ret3
    exact ⟨rfl, up hB hB2⟩


/-- The fewest blanks. -/
theorem glue_min : ∀ (L : List (Nat × Tok)) (l : List Tok) (b : Bool), sepd b L → l.map Tok.bare = L.map (fun x => x.2.bare) → (glue (marked b l) 0).length ≤ (glue L 0).length
  | [], [], b, _, _ => Nat.le_refl _
  | [], t :: l, b, _, h => by cases h
  | x :: L, [], b, _, h => by cases h
  | (n, u) :: L, t :: l, b, hs, h => by
    injection h with h1 h2
    have ht : t.text = u.text ∧ plainT t = plainT u := by
      simp only [Tok.bare, Tok.mk.injEq] at h1
      exact ⟨h1.2.1, by unfold plainT; rw [h1.1]⟩
    have ih := glue_min L l (plainT u) hs.2 h2
    show (List.replicate (if (b && plainT t) = true then 1 else 0) 32 ++ (t.text ++ glue (marked (plainT t) l) 0)).length ≤ (List.replicate n 32 ++ (u.text ++ glue L 0)).length
    rw [ht.1, ht.2]
    simp only [List.length_append, List.length_replicate]
    have hn : (if (b && plainT u) = true then 1 else 0) ≤ n := by
      split
      · rename_i hh
        simp only [Bool.and_eq_true] at hh
        exact hs.1 hh.1 hh.2
      · omega
    omega
theorem norm_glue (L : List (Nat × Tok)) (h : ∀ x ∈ L, okT x.2) (hs : sepd false L) (hl : (glue L 0).length ≤ 4096) : ∃ t, normR (glue L 0) = (t, 0, 0) ∧ ScT t (L.map (fun x => x.2.bare) ++ [tE]) := by
  obtain ⟨l', h1, h2⟩ := scan_of_glue L h hs hl
  have hc := scanR_count (glue L 0)
  rw [h1] at hc
  have hc : l'.length ≤ 4097 := hc
  obtain ⟨l0, q, rfl, ho⟩ := scanR_toks h1
  have hb0 : l0.map Tok.bare = L.map (fun x => x.2.bare) := by
    rw [List.map_append] at h2
    have := congrArg List.dropLast h2
    simpa using this
  have hform : firstNZ (formAt (l0 ++ [⟨3, [], q⟩])) 0 (l0 ++ [(⟨3, [], q⟩ : Tok)]).length = 0 := form_ok l0 q ho
  have hlast : (l0 ++ [(⟨3, [], q⟩ : Tok)]).getLast?.map Tok.kind = some 3 := by simp
  have hjl : (joined false (l0 ++ [(⟨3, [], q⟩ : Tok)])).length ≤ 4096 := by
    rw [joined_glue]
    have := glue_min L l0 false hs hb0
    omega
  have hj : joinR (l0 ++ [⟨3, [], q⟩]) = (0, joined false (l0 ++ [⟨3, [], q⟩])) := by
    unfold joinR
    rw [if_neg (by omega), hform, hlast]
    simp only [ne_eq, not_true_eq_false, if_false]
    rw [if_neg (by omega)]
  obtain ⟨l2, k1, k2⟩ := scan_join l0 q ho
  refine ⟨joined false (l0 ++ [⟨3, [], q⟩]), ?_, l2, scanR_back hjl k1, ?_⟩
  · unfold normR
    rw [h1]
    simp only
    rw [hj]
  · rw [k2, List.map_append, hb0]; rfl

end Go.Proofs.YtemmepgfngkgmaaGreatDoor
