/-
  The reference: syntax, ReadInts.
-/
import Derived.Test.YtemmepgfngkgmaaGreatDoorN35
namespace Go.Proofs.YtemmepgfngkgmaaGreatDoor
open Go.RowKit
set_option linter.unusedVariables false
set_option linter.unusedSimpArgs false

theorem signedR_drop (L : List Tok) (j : Nat) (hj : j < L.length) :
    (signedR L j).1 = (signedR (L.drop j) 0).1 ∧ (signedR L j).2.2 = (signedR (L.drop j) 0).2.2 ∧ ((signedR (L.drop j) 0).2.2 = 0 → (signedR L j).2.1 = (signedR (L.drop j) 0).2.1 + j) := by
  have e0 : (L.drop j)[0]?.getD default = L[j]?.getD default := by rw [List.getElem?_drop]; rfl
  have e1 : (L.drop j)[0 + 1]?.getD default = L[j + 1]?.getD default := by rw [List.getElem?_drop]
  have n1 : ¬ L.length ≤ j := by omega
  have n2 : ¬ (L.drop j).length ≤ 0 := by rw [List.length_drop]; omega
  have hl : ((L.drop j).length ≤ 0 + 1) = (L.length ≤ j + 1) := by rw [List.length_drop]; exact propext ⟨fun h => by omega, fun h => by omega⟩
  unfold signedR
  simp only [if_neg n1, if_neg n2]
  rw [e0]
  by_cases hn : (L[j]?.getD default).kind = 2 ∧ (L[j]?.getD default).text = [45]
  · simp only [if_pos hn]
    rw [e1]
    simp only [hl]
    by_cases hb : L.length ≤ j + 1 ∨ (L[j + 1]?.getD default).kind ≠ 1 ∨ ((L[j]?.getD default).kind = 2 ∧ (L[j]?.getD default).text = [45]) ∧ (L[j + 1]?.getD default).text = [48]
    · simp only [if_pos hb]
      exact ⟨trivial, trivial, fun h => absurd h (by decide)⟩
    · simp only [if_neg hb]
      by_cases hq : (natR (L[j + 1]?.getD default).text).2 ≠ 0
      · simp only [if_pos hq]
        exact ⟨trivial, trivial, fun h => absurd h hq⟩
      · simp only [if_neg hq]
        exact ⟨trivial, trivial, fun _ => by omega⟩
  · simp only [if_neg hn]
    rw [e0]
    have hl0 : ((L.drop j).length ≤ 0) = (L.length ≤ j) := by rw [List.length_drop]; exact propext ⟨fun h => by omega, fun h => by omega⟩
    simp only [hl0]
    by_cases hb : L.length ≤ j ∨ (L[j]?.getD default).kind ≠ 1 ∨ ((L[j]?.getD default).kind = 2 ∧ (L[j]?.getD default).text = [45]) ∧ (L[j]?.getD default).text = [48]
    · simp only [if_pos hb]
      exact ⟨trivial, trivial, fun h => absurd h (by decide)⟩
    · simp only [if_neg hb]
      by_cases hq : (natR (L[j]?.getD default).text).2 ≠ 0
      · simp only [if_pos hq]
        exact ⟨trivial, trivial, fun h => absurd h hq⟩
      · simp only [if_neg hq]
        exact ⟨trivial, trivial, fun _ => by omega⟩

/-- The reader as a value. -/
theorem Rk.value {w : World} {b tb : Nat} {L : List Tok} {s : Rs} (h : Rk w b tb L s) : ∃ V, (loadVar 107 ⟨b, 0, none⟩).run Tryz.prog w = .ok V w ∧ (∃ v0 v1 v2 v3, V = .agg #[v0, v1, v2, v3] ∧ w.cell? ⟨b, 0, none⟩ = some v0 ∧ w.cell? ⟨b, 1, none⟩ = some v1 ∧ w.cell? ⟨b, 2, none⟩ = some v2 ∧ w.cell? ⟨b, 3, none⟩ = some v3 ∧
    ∀ w', Below w.heap.size w w' → Rk (w'.alloc (.cells #[v0, v1, v2, v3] 107)) w'.heap.size tb L s) := by
  have h' := h
  obtain ⟨h0, h1, off, cap, j, e, hb, hne, ht⟩ := h
  have d0 := hb.cell 0
  have d1 := hb.cell 1
  have d2 := hb.cell 2
  have d3 := hb.cell 3
  simp only [List.getElem?_toArray, List.getElem?_cons_zero, List.getElem?_cons_succ] at d0 d1 d2 d3
  obtain ⟨_, _, _, htl, _⟩ := h'.cells
  refine ⟨_, load_reader hb, _, _, _, _, rfl, d0, d1, d2, d3, fun w' hB => ⟨h0, h1, off, cap, j, e, Blk.new _ _ _, by have := hB.size; omega, (ht.below hB).below ((Below.refl _ _).alloc (Nat.le_refl _) _)⟩⟩

set_option maxRecDepth 100000 in
set_option maxHeartbeats 1000000 in
theorem q_syntax (w : World) (tb : Nat) (L : List Tok) (s : Rs) (v0 v1 v2 v3 : Value) (h : Rk (w.alloc (.cells #[v0, v1, v2, v3] 107)) w.heap.size tb L s) (h3 : s.now.kind ≠ 3) (he : s.e = 0) :
    Calls Tryz.prog 85 #[.agg #[v0, v1, v2, v3]] w fun e w' => e = .returned (.int .i64 (if s.now.text = [45] then (tokAt s.ts 1).pos else s.now.pos)) ∧ Below w.heap.size w w' := by
  obtain ⟨W0, hW0⟩ : ∃ W : World, W = w.alloc (.cells #[v0, v1, v2, v3] 107) := ⟨_, rfl⟩
  have HB0 : Hid (Below w.heap.size w W0) := by rw [hW0]; exact (Below.refl _ _).alloc (Nat.le_refl _) _
  rw [← hW0] at h
  have hI := hid (q_is W0 w.heap.size tb L s h [45])
  have H := hid h
  have hm : s.is [45] = decide (s.now.text = [45]) := by unfold Rs.is Rs.more; simp [h3, he]
  have q := tok_pos
  rw [hm] at hI
  by_cases ht : s.now.text = [45]
  · rw [if_pos ht]
    have hd : decide (s.now.text = [45]) = true := by simpa using ht
    rw [hd] at hI
    obtain ⟨p, hp⟩ : ∃ p, Hid (p = (tokAt s.ts 1).pos) := ⟨_, rfl⟩
    rw [← hp.out]
    have h2 := h.1.two h3
    clear ht hd hm h
    go_enter Tryz.func85, Tryz.ntmps85
    go_upto_region 1 with fail
    rw [← hW0]
    clear hW0
    go_wp2_with fail
    refine hI.out.mono ?_
    rintro e w1 ⟨rfl, hB⟩
    have H1 := H.out.below hB
    obtain ⟨h0, h1, off, cap, j, e, hb, hne, htk⟩ := H1
    obtain ⟨a', cap', e4, k2, k3, _, h5⟩ := htk
    injection e4 with e5 _ e6
    subst e5 e6
    have hjl : j + 1 < L.length := by rw [e, List.length_drop] at h2; omega
    obtain ⟨b', off', e4, hlt, hc⟩ := h5.tok (by omega)
    obtain ⟨rfl, rfl⟩ : tb = b' ∧ off = off' := by simpa using e4
    obtain ⟨_, _, x2⟩ := hc (j + 1) hjl
    have hx : (L[j + 1]?.getD default).pos = p := by rw [hp.out]; unfold tokAt; rw [e, List.getElem?_drop]
    rw [hx] at x2
    have d0 := hb.cell 0
    have d1 := hb.cell 1
    simp only [List.getElem?_toArray, List.getElem?_cons_zero, List.getElem?_cons_succ] at d0 d1
    have hbl := hb.lt
    have hl4 := h1.2.1
    have wj : IntKind.i64.wrap ((j : Int) + 1) = ((j + 1 : Nat) : Int) := by rw [IntWalk.i64_in _ (by omega)]; omega
    have hj1 : ((j + 1 : Nat) : Int) < (L.length : Int) := by omega
    have hj0 : (0 : Int) ≤ ((j + 1 : Nat) : Int) := by omega
    have HBz := hid hB
    clear hc hx h5 h0 h1 e hb hB k2 k3
    generalize hJ : j + 1 = J at *
    clear hJ
    dsimp only
    go_wp2_with fail
    go_ret
    exact ⟨rfl, up HB0.out HBz.out⟩
  · rw [if_neg ht]
    have hd : decide (s.now.text = [45]) = false := by simpa using ht
    rw [hd] at hI
    clear ht hd hm h
    go_enter Tryz.func85, Tryz.ntmps85
    go_upto_region 1 with fail
    rw [← hW0]
    clear hW0
    go_wp2_with fail
    refine hI.out.mono ?_
    rintro e w1 ⟨rfl, hB⟩
    dsimp only
    go_wp2_with fail
    refine (q_now w1 w.heap.size tb L s (H.out.below hB)).mono ?_
    rintro e w2 ⟨rfl, hB2⟩
    dsimp only
    go_wp2_with fail
    go_ret
    exact ⟨rfl, up HB0.out (up hB hB2)⟩

end Go.Proofs.YtemmepgfngkgmaaGreatDoor
