/-
  Rows of whatever lengths, and the places of roots.
-/
import Derived.Test.YtlhbgainpeehoaaSpec6
import Derived.Maps.Own
import Derived.Maps.OwnOps
import Derived.Maps.OwnSet
import Derived.Maps.AppendAt
namespace Go.Proofs.Ytlhbgainpeehoaa
set_option linter.unusedVariables false
open Go.RowKit Go.Maps

/-- How many roots are among the first k. -/
def cr (F : Nat → Nat) : Nat → Nat
  | 0 => 0
  | k + 1 => cr F k + if F k = k then 1 else 0
theorem cr_le (F : Nat → Nat) : ∀ k, cr F k ≤ k
  | 0 => Nat.le_refl _
  | k + 1 => by unfold cr; have := cr_le F k; split <;> omega
theorem cr_mono (F : Nat → Nat) (i : Nat) : ∀ k, i ≤ k → cr F i ≤ cr F k
  | 0, h => by obtain rfl : i = 0 := by omega
               exact Nat.le_refl _
  | k + 1, h => by
    by_cases e : i = k + 1
    · rw [e]; exact Nat.le_refl _
    · have := cr_mono F i k (by omega)
      conv => rhs; unfold cr
      omega
theorem cr_lt (F : Nat → Nat) (i k : Nat) (h : i < k) (hF : F i = i) : cr F i < cr F k := by
  have h1 := cr_mono F (i + 1) k h
  have h2 : cr F (i + 1) = cr F i + 1 := by conv => lhs; unfold cr
                                            rw [if_pos hF]
  omega

/-- The places of the roots among the first k. -/
def plD (F : Nat → Nat) : Nat → DataW Unit
  | 0 => .map []
  | k + 1 => if F k = k then (plD F k).put (.int .i64 (k : Int)) (.lit (.int .i64 (cr F k : Int))) else plD F k
theorem plD_map (F : Nat → Nat) : ∀ k, IsMap (plD F k)
  | 0 => ⟨[], rfl⟩
  | k + 1 => by
    unfold plD
    split
    · obtain ⟨es, h⟩ := plD_map F k
      rw [h]
      exact ⟨_, rfl⟩
    · exact plD_map F k
theorem plD_at (F : Nat → Nat) (v : Nat) (hF : F v = v) (hv : v < 1000) : ∀ k, v < k → (plD F k).atKey (.int .i64 (v : Int)) (.lit (.int .i64 0)) = .lit (.int .i64 (cr F v : Int))
  | 0, h => by omega
  | k + 1, h => by
    unfold plD
    by_cases e : v = k
    · subst e
      rw [if_pos hF]
      exact atKey_put_same (plD_map F v) (by trivial) _ _
    · have ih := plD_at F v hF hv k (by omega)
      split
      · rw [atKey_put_other (by simp; omega)]
        exact ih
      · exact ih

theorem cr_yes {F : Nat → Nat} {k : Nat} (h : F k = k) : cr F (k + 1) = cr F k + 1 := by rw [cr, if_pos h]
theorem cr_no {F : Nat → Nat} {k : Nat} (h : F k ≠ k) : cr F (k + 1) = cr F k := by rw [cr, if_neg h]; rfl
theorem plD_yes {F : Nat → Nat} {k : Nat} (h : F k = k) : plD F (k + 1) = (plD F k).put (.int .i64 (k : Int)) (.lit (.int .i64 (cr F k : Int))) := by rw [plD, if_pos h]
theorem plD_no {F : Nat → Nat} {k : Nat} (h : F k ≠ k) : plD F (k + 1) = plD F k := by rw [plD, if_neg h]

/-- v owns m rows of integers, of whatever lengths. -/
structure OwnR (T1 T0 : TypeId) (w : World) (base : Nat) (v : Value) (m : Nat) (rv : Nat → Value) (xs : Nat → List Int) : Prop where
  outer : w.ownsRow base T1 1 v m ((List.range m).map rv)
  row : ∀ i, i < m → w.ownsRow base T0 1 (rv i) (xs i).length ((xs i).map (Value.int .i64))
  inj : ∀ i j, i < m → j < m → i ≠ j → (rv i).ownBlock = none ∨ (rv i).ownBlock ≠ (rv j).ownBlock

section
variable {T1 T0 : TypeId} {w w' : World} {base : Nat} {v : Value} {g cap m : Nat} {rv : Nat → Value} {xs : Nat → List Int}
theorem OwnR.zero (T1 T0 : TypeId) (w : World) (base : Nat) (rv : Nat → Value) (xs : Nat → List Int) : OwnR T1 T0 w base (.slice none 0 0) 0 rv xs :=
  ⟨World.ownsRow_nil _ _ _ _, fun i hi => by omega, fun i j hi => by omega⟩
theorem OwnR.below (h : OwnR T1 T0 w base v m rv xs) (hB : Below w.heap.size w w') : OwnR T1 T0 w' base v m rv xs :=
  ⟨owns_below h.outer hB, fun i hi => owns_below (h.row i hi) hB, h.inj⟩
theorem OwnR.kept (h : OwnR T1 T0 w base v m rv xs) {r : Option Nat} (hg : w.grownBy w' r) (ho : v.ownBlock = none ∨ v.ownBlock ≠ r) (hr : ∀ i, i < m → (rv i).ownBlock = none ∨ (rv i).ownBlock ≠ r) : OwnR T1 T0 w' base v m rv xs :=
  ⟨h.outer.kept hg ho, fun i hi => (h.row i hi).kept hg (hr i hi), h.inj⟩
/-- The outer block is none of the rows'. -/
theorem OwnR.apart (h : OwnR T1 T0 w base v m rv xs) (hT : T1 ≠ T0) (i : Nat) (hi : i < m) : v.ownBlock = none ∨ v.ownBlock ≠ (rv i).ownBlock := by
  rcases h.outer.2 with ⟨h', _⟩ | ⟨g, cap, cur, rfl, _, hg, _⟩
  · left; rw [h']; rfl
  · rcases (h.row i hi).2 with ⟨h2, _⟩ | ⟨g2, cap2, cur2, h2, _, hg2, _⟩
    · right; rw [h2]; simp [Value.ownBlock]
    · right
      rw [h2]
      simp only [Value.ownBlock, ne_eq, Option.some.injEq]
      rintro rfl
      rw [hg] at hg2
      simp at hg2
      exact hT hg2.2
/-- One more row, nil. -/
theorem OwnR.snoc {v' : Value} (h : OwnR T1 T0 w base v m rv xs) (hg : w.grownBy w' v.ownBlock) (hT : T1 ≠ T0) (hb : base ≤ w'.heap.size)
    (ho : w'.ownsRow base T1 1 v' (m + 1) (((List.range m).map rv) ++ [.slice none 0 0])) :
    OwnR T1 T0 w' base v' (m + 1) (fun i => if i < m then rv i else .slice none 0 0) (fun i => if i < m then xs i else []) := by
  refine ⟨?_, fun i hi => ?_, fun i j hi hj hne => ?_⟩
  · have e : ((List.range (m + 1)).map fun i => if i < m then rv i else Value.slice none 0 0) = ((List.range m).map rv) ++ [.slice none 0 0] := by
      rw [List.range_succ, List.map_append]
      congr 1
      · exact List.map_congr_left fun i hi => by rw [if_pos (List.mem_range.1 hi)]
      · simp
    rw [e]; exact ho
  · by_cases h1 : i < m
    · simp only [if_pos h1]
      refine (h.row i h1).kept hg ?_
      rcases h.apart hT i h1 with e | e
      · rw [e]
        cases hv : (rv i).ownBlock with
        | none => exact .inl rfl
        | some q => exact .inr (by simp)
      · exact .inr (Ne.symm e)
    · simp only [if_neg h1]
      exact World.ownsRow_nil _ _ _ _
  · by_cases h1 : i < m
    · by_cases h2 : j < m
      · simp only [if_pos h1, if_pos h2]; exact h.inj i j h1 h2 hne
      · simp only [if_pos h1, if_neg h2]
        cases hv : (rv i).ownBlock with
        | none => exact .inl rfl
        | some q => exact .inr (by simp [Value.ownBlock])
    · simp only [if_neg h1]; exact .inl rfl
/-- Row c has grown, and lies in the outer row again. -/
theorem OwnR.put {w2 : World} {b c n' cp : Nat} {zs : List Int} (h : OwnR T1 T0 w base (.slice (some ⟨g, 0, none⟩) m cap) m rv xs) (hT : T1 ≠ T0) (hc : c < m) (hg : w.grownBy w2 (rv c).ownBlock)
    (hn : w2.ownsRow base T0 1 (.slice (some ⟨b, 0, none⟩) n' cp) zs.length (zs.map (Value.int .i64))) (hat : (rv c).ownBlock = some b ∨ w.heap.size ≤ b) :
    OwnR T1 T0 (w2.setCell ⟨g, c, none⟩ (.slice (some ⟨b, 0, none⟩) n' cp)) base (.slice (some ⟨g, 0, none⟩) m cap) m (fun i => if i = c then .slice (some ⟨b, 0, none⟩) n' cp else rv i) (fun i => if i = c then zs else xs i) := by
  have hgl := (owns_lt h.outer).2
  have hap := h.apart hT
  have hgb : g ≠ b := by
    rcases hat with e | e
    · rcases hap c hc with e2 | e2
      · simp [Value.ownBlock] at e2
      · rw [e] at e2
        simpa [Value.ownBlock] using e2
    · omega
  have hout : w2.ownsRow base T1 1 (.slice (some ⟨g, 0, none⟩) m cap) m ((List.range m).map rv) := h.outer.kept hg (hap c hc)
  refine ⟨?_, fun i hi => ?_, fun i j hi hj hne => ?_⟩
  · have h1 := (hout.stored c (.slice (some ⟨b, 0, none⟩) n' cp)).1
    have e : ((List.range m).map rv).set c (.slice (some ⟨b, 0, none⟩) n' cp) = (List.range m).map (fun i => if i = c then .slice (some ⟨b, 0, none⟩) n' cp else rv i) := by
      apply List.ext_getElem?
      intro i
      by_cases e1 : i = c
      · subst e1
        simp [hc]
      · rw [List.getElem?_set_ne (Ne.symm e1)]
        by_cases e2 : i < m
        · simp [e2, e1]
        · simp [e2]
    rw [e] at h1
    exact h1
  · by_cases e1 : i = c
    · subst e1
      simp only [if_true]
      exact hn.kept (grown_set w2 g i _) (.inr (by simpa [Value.ownBlock] using Ne.symm hgb))
    · simp only [if_neg e1]
      refine ((h.row i hi).kept hg (h.inj i c hi hc e1)).kept (grown_set w2 g c _) ?_
      rcases hap i hi with e2 | e2
      · simp [Value.ownBlock] at e2
      · exact .inr (Ne.symm e2)
  · by_cases e1 : i = c
    · by_cases e2 : j = c
      · omega
      · simp only [if_pos e1, if_neg e2]
        right
        intro e3
        rcases hat with e | e
        · rcases h.inj j c hj hc e2 with e4 | e4
          · rw [e4] at e3; simp [Value.ownBlock] at e3
          · rw [e] at e4; exact e4 (by rw [← e3]; simp [Value.ownBlock])
        · have := (h.row j hj).lt b (by rw [← e3]; simp [Value.ownBlock])
          omega
    · by_cases e2 : j = c
      · simp only [if_neg e1, if_pos e2]
        cases hv : (rv i).ownBlock with
        | none => exact .inl rfl
        | some q =>
          right
          intro e3
          simp only [Value.ownBlock, Option.some.injEq] at e3
          rw [e3] at hv
          rcases hat with e | e
          · rcases h.inj i c hi hc e1 with e4 | e4
            · rw [e4] at hv; simp at hv
            · rw [e, hv] at e4; exact e4 rfl
          · have := (h.row i hi).lt b hv
            omega
      · simp only [if_neg e1, if_neg e2]; exact h.inj i j hi hj hne
end

end Go.Proofs.Ytlhbgainpeehoaa
