/-
  What is written is read back: graphs, digraphs, lists. Plain.
-/
import Derived.Test.YtemmepgfngkgmaaGreatDoorN61
import Derived.Test.YtemmepgfngkgmaaGreatDoorN62
namespace Go.Proofs.YtemmepgfngkgmaaGreatDoor
open Go.RowKit
set_option linter.unusedVariables false
set_option linter.unusedSimpArgs false

theorem sorted_adj {es : List E} (h : ∀ k, k + 1 < es.length → ltE (es[k]?.getD default) (es[k + 1]?.getD default).a (es[k + 1]?.getD default).b = true) : SortedE es := by
  have key : ∀ d j, j + d + 1 < es.length → ltE (es[j]?.getD default) (es[j + d + 1]?.getD default).a (es[j + d + 1]?.getD default).b = true := by
    intro d
    induction d with
    | zero => intro j hj; exact h j hj
    | succ d ih =>
      intro j hj
      have h1 := ih j (by omega)
      have h2 := h (j + d + 1) (by omega)
      exact ltE_trans (x := es[j]?.getD default) (y := es[j + d + 1]?.getD default) h1 h2
  intro j k hjk hk
  have := key (k - j - 1) j (by omega)
  rw [show j + (k - j - 1) + 1 = k by omega] at this
  exact this
theorem ltE_of {x y : E} (h : ¬ (y.a < x.a ∨ y.a = x.a ∧ y.b ≤ x.b)) : ltE x y.a y.b = true := by
  unfold ltE
  simp
  omega
theorem gok_sorted {g : G} (h : Gok g) : SortedE g.es := sorted_adj fun k hk => by
  have he := h.edge (k + 1) hk
  unfold edgeErr at he
  rw [Nat.add_sub_cancel] at he
  refine ltE_of fun hb => ?_
  split at he
  · omega
  · split at he
    · omega
    · rw [if_pos ⟨by omega, hb⟩] at he; omega
theorem gok_in {g : G} (h : Gok g) : ∀ x ∈ g.es, InE g.n x ∧ x.a ≤ x.b := fun x hx => by
  obtain ⟨h1, h2, h3, h4, h5⟩ := h.mem hx
  exact ⟨⟨h1, by omega, by omega, h3, h4, h5⟩, h2⟩
theorem dg_ok {g : G} (h : dgErr g = 0) : (1 ≤ g.n ∧ g.n ≤ 12) ∧ (∀ x ∈ g.es, InE g.n x) ∧ SortedE g.es := by
  unfold dgErr at h
  by_cases hn : g.n < 1 ∨ 12 < g.n
  · rw [if_pos hn] at h; omega
  · rw [if_neg hn] at h
    have hz := firstNZ_zero _ _ _ h
    refine ⟨by omega, fun x hx => ?_, sorted_adj fun k hk => ?_⟩
    · obtain ⟨k, hk, rfl⟩ := List.mem_iff_getElem.1 hx
      have he := hz k (Nat.zero_le _) (by omega)
      unfold arcErr at he
      rw [List.getElem?_eq_getElem hk] at he
      split at he
      · omega
      · rename_i hv
        simp only [Option.getD_some, Bool.or_eq_true, Bool.not_eq_true', decide_eq_true_eq, not_or] at hv
        unfold vtx at hv
        simp at hv
        unfold InE
        omega
    · have he := hz (k + 1) (Nat.zero_le _) (by omega)
      unfold arcErr at he
      rw [Nat.add_sub_cancel] at he
      refine ltE_of fun hb => ?_
      split at he
      · omega
      · rw [if_pos ⟨by omega, hb⟩] at he; omega
theorem limR_ok {t : List UInt8} (h : (limR t).1 = 0) : t.length ≤ 4096 ∧ (limR t).2 = t := by
  unfold limR at h ⊢
  by_cases h1 : 4096 < t.length
  · rw [if_pos h1] at h; exact absurd h (by decide)
  · rw [if_neg h1]; exact ⟨by omega, rfl⟩
theorem graph_text {g : G} (h : (graphR g).1 = 0) : Gok g ∧ (graphR g).2 = wGraph ++ 32 :: tabT 45 g ∧ (wGraph ++ 32 :: tabT 45 g).length ≤ 4096 := by
  unfold graphR at h ⊢
  by_cases hc : checkErr g ≠ 0
  · rw [if_pos hc] at h; exact absurd h hc
  · rw [if_neg hc] at h ⊢
    obtain ⟨h1, h2⟩ := limR_ok h
    exact ⟨show checkErr g = 0 by omega, h2, h1⟩
/-- A graph's text is read back; so is the normal text of its tokens. -/
theorem graph_back {g : G} (h : (graphR g).1 = 0) : tableP wGraph 45 true (opened (scanR (graphR g).2)) = (g, 0, 0) ∧ ∃ t, normR (graphR g).2 = (t, 0, 0) ∧ tableP wGraph 45 true (opened (scanR t)) = (g, 0, 0) := by
  obtain ⟨hk, h2, h1⟩ := graph_text h
  have hin := gok_in hk
  have hok := tabGl_ok (word := wGraph) (sign := 45) (g := g) (by decide) (by decide) hk.n (fun x hx => (hin x hx).1)
  have hse := tabGl_sepd wGraph 45 g
  have back : ∀ t, ScT t (tabT' wGraph 45 g) → tableP wGraph 45 true (opened (scanR t)) = (g, 0, 0) := fun t ht => Rd.tableP ht.rd hk.n (fun _ x hx => (hin x hx).2) (fun x hx => (hin x hx).1) (gok_sorted hk)
  rw [h2, ← tabGl_text] at *
  refine ⟨back _ ?_, ?_⟩
  · rw [← tabGl_tok]
    exact scan_of_glue _ hok hse h1
  · obtain ⟨t, h3, h4⟩ := norm_glue _ hok hse h1
    rw [tabGl_tok] at h4
    exact ⟨t, h3, back t h4⟩
theorem digraph_back {g : G} (h : (digraphR g).1 = 0) : tableP wDigraph 62 false (opened (scanR (digraphR g).2)) = (g, 0, 0) := by
  unfold digraphR at h ⊢
  by_cases hc : dgErr g ≠ 0
  · rw [if_pos hc] at h; exact absurd h hc
  · rw [if_neg hc] at h ⊢
    obtain ⟨h1, h2⟩ := limR_ok h
    obtain ⟨hn, hin, hso⟩ := dg_ok (show dgErr g = 0 by omega)
    have hok := tabGl_ok (word := wDigraph) (sign := 62) (g := g) (by decide) (by decide) hn hin
    have hse := tabGl_sepd wDigraph 62 g
    rw [h2, ← tabGl_text]
    rw [← tabGl_text] at h1
    have hs := scan_of_glue _ hok hse h1
    rw [tabGl_tok] at hs
    exact Rd.tableP hs.rd hn (fun h => by cases h) hin hso
theorem ints_back {word : List UInt8} {l : List Int} (hw : wordErr word = 0) (h : (intsR word l).1 = 0) : readIntsR (intsR word l).2 = .inr (word, l) ∧ ∃ t, normR (intsR word l).2 = (t, 0, 0) := by
  unfold intsR at h ⊢
  rw [if_neg (by omega)] at h ⊢
  by_cases hl : 256 < l.length
  · rw [if_pos hl] at h; exact absurd h (by decide)
  rw [if_neg hl] at h ⊢
  by_cases hc : l.all chipB = false
  · rw [if_pos hc] at h; exact absurd h (by decide)
  rw [if_neg hc] at h ⊢
  rw [Bool.not_eq_false] at hc
  obtain ⟨h1, h2⟩ := limR_ok h
  have hok := intsGl_ok hw hc
  have hse := intsGl_sepd word l
  rw [h2, ← intsGl_text]
  rw [← intsGl_text] at h1
  have hs := scan_of_glue _ hok hse h1
  rw [intsGl_tok] at hs
  obtain ⟨t, h3, _⟩ := norm_glue _ hok hse h1
  exact ⟨readInts_of hs hc (by omega), t, h3⟩

end Go.Proofs.YtemmepgfngkgmaaGreatDoor
