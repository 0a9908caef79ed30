/-
  LexerReturns: the law's walk.
-/
import Derived.Test.YtkeglokokleonaaDoorKC
import Derived.Test.YtkeglokokleonaaDoorK20
namespace Go.Proofs.YtkeglokokleonaaDoor
open Go.RowKit

theorem join_back (l : List Tok) (h : (joinR l).1 = 0) : l.length ≤ 4097 ∧ ∃ l', scanR (joinR l).2 = .inr l' ∧ l'.map Tok.bare = l.map Tok.bare := by
  unfold joinR at h ⊢
  by_cases h1 : 4097 < l.length
  · rw [if_pos h1] at h; exact absurd h (by decide)
  rw [if_neg h1] at h ⊢
  by_cases h2 : firstNZ (formAt l) 0 l.length ≠ 0
  · rw [if_pos h2] at h; exact absurd h h2
  rw [if_neg h2] at h ⊢
  by_cases h3 : (l.getLast?.map Tok.kind) ≠ some 3
  · rw [if_pos h3] at h; exact absurd h (by decide)
  rw [if_neg h3] at h ⊢
  by_cases h4 : 4096 < (joined false l).length
  · rw [if_pos h4] at h; exact absurd h (by decide)
  rw [if_neg h4] at h ⊢
  obtain ⟨l0, q, rfl, ho⟩ := form_back l (by omega) (by simpa using h2) (by simpa using h3)
  obtain ⟨l', hl', hb⟩ := scan_join l0 q ho
  exact ⟨by omega, l', scanR_back (by simpa using h4) hl', hb⟩

set_option maxRecDepth 100000 in
set_option maxHeartbeats 4000000 in
theorem l_Returns (l : List Tok) (v : Value) (w : World) (hv : ToksR w v l) : Calls Tryd.prog 7 #[v] w fun e w' => e = .returned (.bool true) ∧ Below w.heap.size w w' := by
  have hF := hid (r_Few l v w hv)
  have hD := hid l_awake
  have hJ : FewT l → Hid (∀ w1, Below w.heap.size w w1 → Calls Tryd.prog 14 #[v] w1 fun e w' => e = .returned (.tuple #[.string (str (joinR l).2), .int .i64 (joinR l).1]) ∧ Below w1.heap.size w1 w') := fun hf w1 hB =>
    p_Join l v w1 (hv.below hB) (fun h k => by have := (hf h).2 k; omega)
  have hBK := hid (join_back l)
  have hv' := hid hv
  clear hv
  generalize (joinR l).2 = s at *
  generalize (joinR l).1 = n at *
  go_enter Tryd.func7, Tryd.ntmps7
  go_wp2_with fail
  refine hF.out.mono ?_
  rintro e w1 ⟨b, rfl, hb, rfl⟩
  cases b with
  | false =>
    clear hJ hb
    go_simp
    go_wp2_with fail
    refine (hD.out _).mono ?_
    rintro e w2 ⟨rfl, hB⟩
    go_simp
    go_wp2_with fail
    go_ret
    exact ⟨rfl, hB⟩
  | true =>
    have hf := hb rfl
    have hJ := hJ hf
    clear hb hf
    by_cases hn : n = 0
    · subst hn
      obtain ⟨hl, l', hs, hbb⟩ := hBK.out rfl
      have hG := got_p s
      rw [hs] at hG
      have HG := hid hG
      have hcn := scanR_count s
      rw [hs] at hcn
      have HC1 : Hid (∀ w2, Below w1.heap.size w1 w2 → Calls Tryd.prog 22 #[v] w2 fun e w' => ∃ v', e = .returned v' ∧ ToksR w' v' (l.map Tok.bare) ∧ Below w2.heap.size w2 w') := fun w2 hB => c_bare l v w2 (hv'.out.below hB) (by omega)
      have HC2 : Hid (∀ u w1, ToksR w1 u l' → Calls Tryd.prog 22 #[u] w1 fun e w' => ∃ v', e = .returned v' ∧ ToksR w' v' (l.map Tok.bare) ∧ Below w1.heap.size w1 w') := fun u w1 hu => by
        rw [← hbb]; exact c_bare l' u w1 hu (by simp only [Scn.toks] at hcn; omega)
      have HEQ : Hid (∀ v u w1, ToksR w1 v (l.map Tok.bare) → ToksR w1 u (l.map Tok.bare) → Calls Tryd.prog 21 #[v, u] w1 fun e w' => e = .returned (.bool true) ∧ Below w1.heap.size w1 w') := fun v u w1 h1 h2 => by
        have := c_Equal _ _ v u w1 h1 h2
        rw [show decide (l.map Tok.bare = l.map Tok.bare) = true from decide_eq_true rfl] at this
        exact this
      clear hBK hs hbb hG hcn hl
      go_simp
      go_wp2_with fail
      refine (hJ.out _ (Below.refl _ _)).mono ?_
      rintro e w2 ⟨rfl, hB⟩
      go_simp
      go_wp2_with fail
      refine (HG.out _).mono ?_
      rintro e w3 ⟨u, rfl, hu, hB3⟩
      have hB := up hB hB3
      clear hB3
      simp only [Scn.at', Scn.no, Scn.toks] at hu ⊢
      go_simp
      go_wp2_with fail
      refine (HC1.out _ hB).mono ?_
      rintro e w4 ⟨v1, rfl, hv1, hB4⟩
      have hu := hu.below hB4
      have hB := up hB hB4
      clear hB4
      go_simp
      go_wp2_with fail
      refine (HC2.out _ _ hu).mono ?_
      rintro e w5 ⟨v2, rfl, hv2, hB5⟩
      have hv1 := hv1.below hB5
      have hB := up hB hB5
      clear hB5
      go_simp
      go_wp2_with fail
      refine (HEQ.out _ _ _ hv1 hv2).mono ?_
      rintro e w6 ⟨rfl, hB6⟩
      have hB := up hB hB6
      clear hB6
      go_simp
      go_wp2_with fail
      refine (hD.out _).mono ?_
      rintro e w7 ⟨rfl, hB7⟩
      go_simp
      go_wp2_with fail
      go_ret
      exact ⟨rfl, up hB hB7⟩
    · clear hBK
      have hn2 : (n != 0) = true := by simpa using hn
      clear hn
      go_simp
      go_wp2_with fail
      refine (hJ.out _ (Below.refl _ _)).mono ?_
      rintro e w2 ⟨rfl, hB⟩
      go_simp
      go_wp2_with fail
      refine (hD.out _).mono ?_
      rintro e w3 ⟨rfl, hB3⟩
      go_simp
      go_wp2_with fail
      go_ret
      exact ⟨rfl, up hB hB3⟩

end Go.Proofs.YtkeglokokleonaaDoor
