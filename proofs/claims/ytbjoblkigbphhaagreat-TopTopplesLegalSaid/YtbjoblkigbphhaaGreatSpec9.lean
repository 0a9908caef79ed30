/-
  Rows of whatever lengths, and the places of roots. Plain laws: the roots of the forest of all edges are as many as the parts that the reference reckons.
-/
import Derived.Test.YtbjoblkigbphhaaGreatSpec2
import Derived.Maps.Own
import Derived.Maps.OwnOps
import Derived.Maps.OwnSet
import Derived.Maps.AppendAt
namespace Go.Proofs.YtbjoblkigbphhaaGreat
set_option linter.unusedVariables false
open Go.RowKit Go.Maps

/-- How many roots are among the first k. -/
def cr (F : Nat → Nat) : Nat → Nat
  | 0 => 0
  | k + 1 => cr F k + if F k = k then 1 else 0
theorem cr_le (F : Nat → Nat) : ∀ k, cr F k ≤ k
  | 0 => Nat.le_refl _
  | k + 1 => by unfold cr; have := cr_le F k; split <;> omega
theorem cr_mono (F : Nat → Nat) (i : Nat) : ∀ k, i ≤ k → cr F i ≤ cr F k
  | 0, h => by obtain rfl : i = 0 := by omega
               exact Nat.le_refl _
  | k + 1, h => by
    by_cases e : i = k + 1
    · rw [e]; exact Nat.le_refl _
    · have := cr_mono F i k (by omega)
      conv => rhs; unfold cr
      omega
theorem cr_lt (F : Nat → Nat) (i k : Nat) (h : i < k) (hF : F i = i) : cr F i < cr F k := by
  have h1 := cr_mono F (i + 1) k h
  have h2 : cr F (i + 1) = cr F i + 1 := by conv => lhs; unfold cr
                                            rw [if_pos hF]
  omega

/-- The places of the roots among the first k. -/
def plD (F : Nat → Nat) : Nat → DataW Unit
  | 0 => .map []
  | k + 1 => if F k = k then (plD F k).put (.int .i64 (k : Int)) (.lit (.int .i64 (cr F k : Int))) else plD F k
theorem plD_map (F : Nat → Nat) : ∀ k, IsMap (plD F k)
  | 0 => ⟨[], rfl⟩
  | k + 1 => by
    unfold plD
    split
    · obtain ⟨es, h⟩ := plD_map F k
      rw [h]
      exact ⟨_, rfl⟩
    · exact plD_map F k
theorem plD_at (F : Nat → Nat) (v : Nat) (hF : F v = v) (hv : v < 1000) : ∀ k, v < k → (plD F k).atKey (.int .i64 (v : Int)) (.lit (.int .i64 0)) = .lit (.int .i64 (cr F v : Int))
  | 0, h => by omega
  | k + 1, h => by
    unfold plD
    by_cases e : v = k
    · subst e
      rw [if_pos hF]
      exact atKey_put_same (plD_map F v) (by trivial) _ _
    · have ih := plD_at F v hF hv k (by omega)
      split
      · rw [atKey_put_other (by simp; omega)]
        exact ih
      · exact ih

theorem cr_yes {F : Nat → Nat} {k : Nat} (h : F k = k) : cr F (k + 1) = cr F k + 1 := by rw [cr, if_pos h]
theorem cr_no {F : Nat → Nat} {k : Nat} (h : F k ≠ k) : cr F (k + 1) = cr F k := by rw [cr, if_neg h]; rfl
theorem plD_yes {F : Nat → Nat} {k : Nat} (h : F k = k) : plD F (k + 1) = (plD F k).put (.int .i64 (k : Int)) (.lit (.int .i64 (cr F k : Int))) := by rw [plD, if_pos h]
theorem plD_no {F : Nat → Nat} {k : Nat} (h : F k ≠ k) : plD F (k + 1) = plD F k := by rw [plD, if_neg h]

/-- v owns m rows of integers, of whatever lengths. -/
structure OwnR (T1 T0 : TypeId) (w : World) (base : Nat) (v : Value) (m : Nat) (rv : Nat → Value) (xs : Nat → List Int) : Prop where
  outer : w.ownsRow base T1 1 v m ((List.range m).map rv)
  row : ∀ i, i < m → w.ownsRow base T0 1 (rv i) (xs i).length ((xs i).map (Value.int .i64))
  inj : ∀ i j, i < m → j < m → i ≠ j → (rv i).ownBlock = none ∨ (rv i).ownBlock ≠ (rv j).ownBlock

section
variable {T1 T0 : TypeId} {w w' : World} {base : Nat} {v : Value} {g cap m : Nat} {rv : Nat → Value} {xs : Nat → List Int}
theorem OwnR.zero (T1 T0 : TypeId) (w : World) (base : Nat) (rv : Nat → Value) (xs : Nat → List Int) : OwnR T1 T0 w base (.slice none 0 0) 0 rv xs :=
  ⟨World.ownsRow_nil _ _ _ _, fun i hi => by omega, fun i j hi => by omega⟩
theorem OwnR.below (h : OwnR T1 T0 w base v m rv xs) (hB : Below w.heap.size w w') : OwnR T1 T0 w' base v m rv xs :=
  ⟨owns_below h.outer hB, fun i hi => owns_below (h.row i hi) hB, h.inj⟩
theorem OwnR.kept (h : OwnR T1 T0 w base v m rv xs) {r : Option Nat} (hg : w.grownBy w' r) (ho : v.ownBlock = none ∨ v.ownBlock ≠ r) (hr : ∀ i, i < m → (rv i).ownBlock = none ∨ (rv i).ownBlock ≠ r) : OwnR T1 T0 w' base v m rv xs :=
  ⟨h.outer.kept hg ho, fun i hi => (h.row i hi).kept hg (hr i hi), h.inj⟩
/-- The outer block is none of the rows'. -/
theorem OwnR.apart (h : OwnR T1 T0 w base v m rv xs) (hT : T1 ≠ T0) (i : Nat) (hi : i < m) : v.ownBlock = none ∨ v.ownBlock ≠ (rv i).ownBlock := by
  rcases h.outer.2 with ⟨h', _⟩ | ⟨g, cap, cur, rfl, _, hg, _⟩
  · left; rw [h']; rfl
  · rcases (h.row i hi).2 with ⟨h2, _⟩ | ⟨g2, cap2, cur2, h2, _, hg2, _⟩
    · right; rw [h2]; simp [Value.ownBlock]
    · right
      rw [h2]
      simp only [Value.ownBlock, ne_eq, Option.some.injEq]
      rintro rfl
      rw [hg] at hg2
      simp at hg2
      exact hT hg2.2
/-- One more row, nil. -/
theorem OwnR.snoc {v' : Value} (h : OwnR T1 T0 w base v m rv xs) (hg : w.grownBy w' v.ownBlock) (hT : T1 ≠ T0) (hb : base ≤ w'.heap.size)
    (ho : w'.ownsRow base T1 1 v' (m + 1) (((List.range m).map rv) ++ [.slice none 0 0])) :
    OwnR T1 T0 w' base v' (m + 1) (fun i => if i < m then rv i else .slice none 0 0) (fun i => if i < m then xs i else []) := by
  refine ⟨?_, fun i hi => ?_, fun i j hi hj hne => ?_⟩
  · have e : ((List.range (m + 1)).map fun i => if i < m then rv i else Value.slice none 0 0) = ((List.range m).map rv) ++ [.slice none 0 0] := by
      rw [List.range_succ, List.map_append]
      congr 1
      · exact List.map_congr_left fun i hi => by rw [if_pos (List.mem_range.1 hi)]
      · simp
    rw [e]; exact ho
  · by_cases h1 : i < m
    · simp only [if_pos h1]
      refine (h.row i h1).kept hg ?_
      rcases h.apart hT i h1 with e | e
      · rw [e]
        cases hv : (rv i).ownBlock with
        | none => exact .inl rfl
        | some q => exact .inr (by simp)
      · exact .inr (Ne.symm e)
    · simp only [if_neg h1]
      exact World.ownsRow_nil _ _ _ _
  · by_cases h1 : i < m
    · by_cases h2 : j < m
      · simp only [if_pos h1, if_pos h2]; exact h.inj i j h1 h2 hne
      · simp only [if_pos h1, if_neg h2]
        cases hv : (rv i).ownBlock with
        | none => exact .inl rfl
        | some q => exact .inr (by simp [Value.ownBlock])
    · simp only [if_neg h1]; exact .inl rfl
/-- Row c has grown, and lies in the outer row again. -/
theorem OwnR.put {w2 : World} {b c n' cp : Nat} {zs : List Int} (h : OwnR T1 T0 w base (.slice (some ⟨g, 0, none⟩) m cap) m rv xs) (hT : T1 ≠ T0) (hc : c < m) (hg : w.grownBy w2 (rv c).ownBlock)
    (hn : w2.ownsRow base T0 1 (.slice (some ⟨b, 0, none⟩) n' cp) zs.length (zs.map (Value.int .i64))) (hat : (rv c).ownBlock = some b ∨ w.heap.size ≤ b) :
    OwnR T1 T0 (w2.setCell ⟨g, c, none⟩ (.slice (some ⟨b, 0, none⟩) n' cp)) base (.slice (some ⟨g, 0, none⟩) m cap) m (fun i => if i = c then .slice (some ⟨b, 0, none⟩) n' cp else rv i) (fun i => if i = c then zs else xs i) := by
  have hgl := (owns_lt h.outer).2
  have hap := h.apart hT
  have hgb : g ≠ b := by
    rcases hat with e | e
    · rcases hap c hc with e2 | e2
      · simp [Value.ownBlock] at e2
      · rw [e] at e2
        simpa [Value.ownBlock] using e2
    · omega
  have hout : w2.ownsRow base T1 1 (.slice (some ⟨g, 0, none⟩) m cap) m ((List.range m).map rv) := h.outer.kept hg (hap c hc)
  refine ⟨?_, fun i hi => ?_, fun i j hi hj hne => ?_⟩
  · have h1 := (hout.stored c (.slice (some ⟨b, 0, none⟩) n' cp)).1
    have e : ((List.range m).map rv).set c (.slice (some ⟨b, 0, none⟩) n' cp) = (List.range m).map (fun i => if i = c then .slice (some ⟨b, 0, none⟩) n' cp else rv i) := by
      apply List.ext_getElem?
      intro i
      by_cases e1 : i = c
      · subst e1
        simp [hc]
      · rw [List.getElem?_set_ne (Ne.symm e1)]
        by_cases e2 : i < m
        · simp [e2, e1]
        · simp [e2]
    rw [e] at h1
    exact h1
  · by_cases e1 : i = c
    · subst e1
      simp only [if_true]
      exact hn.kept (grown_set w2 g i _) (.inr (by simpa [Value.ownBlock] using Ne.symm hgb))
    · simp only [if_neg e1]
      refine ((h.row i hi).kept hg (h.inj i c hi hc e1)).kept (grown_set w2 g c _) ?_
      rcases hap i hi with e2 | e2
      · simp [Value.ownBlock] at e2
      · exact .inr (Ne.symm e2)
  · by_cases e1 : i = c
    · by_cases e2 : j = c
      · omega
      · simp only [if_pos e1, if_neg e2]
        right
        intro e3
        rcases hat with e | e
        · rcases h.inj j c hj hc e2 with e4 | e4
          · rw [e4] at e3; simp [Value.ownBlock] at e3
          · rw [e] at e4; exact e4 (by rw [← e3]; simp [Value.ownBlock])
        · have := (h.row j hj).lt b (by rw [← e3]; simp [Value.ownBlock])
          omega
    · by_cases e2 : j = c
      · simp only [if_neg e1, if_pos e2]
        cases hv : (rv i).ownBlock with
        | none => exact .inl rfl
        | some q =>
          right
          intro e3
          simp only [Value.ownBlock, Option.some.injEq] at e3
          rw [e3] at hv
          rcases hat with e | e
          · rcases h.inj i c hi hc e1 with e4 | e4
            · rw [e4] at hv; simp at hv
            · rw [e, hv] at e4; exact e4 rfl
          · have := (h.row i hi).lt b hv
            omega
      · simp only [if_neg e1, if_neg e2]; exact h.inj i j hi hj hne
end

end Go.Proofs.YtbjoblkigbphhaaGreat

namespace Go.Proofs.YtbjoblkigbphhaaGreat
set_option linter.unusedVariables false
open Go.RowKit

/-- Two vertices are joined. -/
def Adj (g : G) (a b : Nat) : Prop := a < g.n.toNat ∧ b < g.n.toNat ∧ 0 < btw g a b
theorem Adj.symm {g : G} {a b : Nat} (h : Adj g a b) : Adj g b a := by
  refine ⟨h.2.1, h.1, ?_⟩
  have := h.2.2
  unfold btw at *
  rwa [Int.min_comm, Int.max_comm]
/-- Two vertices lie in one part. -/
def Con (g : G) (a b : Nat) : Prop := ∀ P : Nat → Prop, P a → (∀ x y, P x → Adj g x y → P y) → P b
theorem Con.refl (g : G) (a : Nat) : Con g a a := fun _ h _ => h
theorem Con.step {g : G} {a b c : Nat} (h : Con g a b) (h2 : Adj g b c) : Con g a c := fun P h0 hs => hs _ _ (h P h0 hs) h2
theorem Con.trans {g : G} {a b c : Nat} (h : Con g a b) (h2 : Con g b c) : Con g a c := fun P h0 hs => h2 P (h P h0 hs) hs
theorem Con.symm {g : G} {a b : Nat} (h : Con g a b) : Con g b a :=
  h (fun x => Con g x a) (Con.refl g a) fun x y hx hxy => ((Con.refl g y).step hxy.symm).trans hx

theorem set_get (l : List Bool) (b u : Nat) (x : Bool) : (l.set b x)[u]?.getD false = if b = u ∧ u < l.length then x else l[u]?.getD false := by
  rw [List.getElem?_set]
  by_cases h : b = u
  · subst h
    by_cases h2 : b < l.length
    · simp [h2]
    · simp [h2]
  · simp [h]
theorem rStp_mono (g : G) (a b u : Nat) (l : List Bool) (h : l[u]?.getD false = true) : (rStp g a b l)[u]?.getD false = true := by
  unfold rStp
  split
  · rw [set_get]; split <;> first | rfl | exact h
  · exact h
theorem rB_mono (g : G) (a u : Nat) (l : List Bool) (h : l[u]?.getD false = true) : ∀ k, (rB g a k l)[u]?.getD false = true
  | 0 => h
  | k + 1 => rStp_mono g a k u _ (rB_mono g a u l h k)
theorem rA_mono (g : G) (u : Nat) (l : List Bool) (h : l[u]?.getD false = true) : ∀ k, (rA g k l)[u]?.getD false = true
  | 0 => h
  | k + 1 => rB_mono g k u _ (rA_mono g u l h k) _
theorem rR_mono (g : G) (u : Nat) (l : List Bool) (h : l[u]?.getD false = true) : ∀ k, (rR g k l)[u]?.getD false = true
  | 0 => h
  | k + 1 => rA_mono g u _ (rR_mono g u l h k) _

theorem rB_hit (g : G) (a b : Nat) (l : List Bool) (h : l[a]?.getD false = true) (hb : b < l.length) (hab : 0 < btw g a b) : ∀ k, b < k → (rB g a k l)[b]?.getD false = true
  | 0, hk => by omega
  | k + 1, hk => by
    by_cases e : b = k
    · subst e
      unfold rB rStp
      rw [rB_mono g a a l h b]
      simp only [Bool.true_and, hab, decide_true, if_true]
      rw [set_get, rB_len]
      simp [hb]
    · exact rStp_mono g a k b _ (rB_hit g a b l h hb hab k (by omega))
theorem rA_hit (g : G) (a b : Nat) (l : List Bool) (h : l[a]?.getD false = true) (hb : b < l.length) (hab : 0 < btw g a b) (hbn : b < g.n.toNat) : ∀ k, a < k → (rA g k l)[b]?.getD false = true
  | 0, hk => by omega
  | k + 1, hk => by
    by_cases e : a = k
    · subst e
      exact rB_hit g a b _ (rA_mono g a l h a) (by rw [rA_len]; exact hb) hab _ hbn
    · exact rB_mono g k b _ (rA_hit g a b l h hb hab hbn k (by omega)) _

theorem rB_sound (g : G) (v a : Nat) (l : List Bool) (hl : l.length = g.n.toNat) (h : ∀ u, l[u]?.getD false = true → Con g v u) (ha : a < g.n.toNat) : ∀ k, k ≤ g.n.toNat → ∀ u, (rB g a k l)[u]?.getD false = true → Con g v u
  | 0, _, u, hu => h u hu
  | k + 1, hk, u, hu => by
    have ih := rB_sound g v a l hl h ha k (by omega)
    unfold rB rStp at hu
    split at hu
    · rename_i hc
      simp only [Bool.and_eq_true, decide_eq_true_eq] at hc
      rw [set_get] at hu
      split at hu
      · rename_i he
        rw [← he.1]
        exact (ih a hc.1).step ⟨ha, by omega, hc.2⟩
      · exact ih u hu
    · exact ih u hu
theorem rA_sound (g : G) (v : Nat) (l : List Bool) (hl : l.length = g.n.toNat) (h : ∀ u, l[u]?.getD false = true → Con g v u) : ∀ k, k ≤ g.n.toNat → ∀ u, (rA g k l)[u]?.getD false = true → Con g v u
  | 0, _, u, hu => h u hu
  | k + 1, hk, u, hu => rB_sound g v k _ (by rw [rA_len]; exact hl) (rA_sound g v l hl h k (by omega)) (by omega) _ (Nat.le_refl _) u hu
theorem rR_sound (g : G) (v : Nat) (l : List Bool) (hl : l.length = g.n.toNat) (h : ∀ u, l[u]?.getD false = true → Con g v u) : ∀ k, ∀ u, (rR g k l)[u]?.getD false = true → Con g v u
  | 0, u, hu => h u hu
  | k + 1, u, hu => rA_sound g v _ (by rw [rR_len]; exact hl) (rR_sound g v l hl h k) _ (Nat.le_refl _) u hu

theorem cnt_lt : ∀ l l' : List Bool, l.length = l'.length → (∀ u : Nat, l[u]?.getD false = true → l'[u]?.getD false = true) → l = l' ∨ l.count true < l'.count true
  | [], [], _, _ => .inl rfl
  | x :: l, y :: l', hl, h => by
    have ih := cnt_lt l l' (by simpa using hl) fun u hu => by simpa using h (u + 1) (by simpa using hu)
    have h0 := h 0
    simp only [List.getElem?_cons_zero, Option.getD_some] at h0
    rcases ih with rfl | ih
    · cases x <;> cases y <;> simp_all
    · right
      cases x <;> cases y <;> simp_all <;> omega

theorem rR_fix (g : G) (l : List Bool) (hl : 0 < l.count true) : ∀ k, rA g g.n.toNat (rR g k l) = rR g k l ∨ k < (rR g k l).count true
  | 0 => .inr hl
  | k + 1 => by
    rcases rR_fix g l hl k with h | h
    · left; rw [rR, h, h]
    · rcases cnt_lt (rR g k l) (rA g g.n.toNat (rR g k l)) (by rw [rA_len]) (fun u hu => rA_mono g u _ hu _) with e | e
      · left; rw [rR, ← e, ← e]
      · right; rw [rR]; omega

theorem reached_iff (g : G) (v u : Nat) (hv : v < g.n.toNat) : (reached g v)[u]?.getD false = true ↔ Con g v u := by
  have hlen : ((List.replicate g.n.toNat false).set v true).length = g.n.toNat := by simp
  have hself : ((List.replicate g.n.toNat false).set v true)[v]?.getD false = true := by rw [set_get]; simp [hv]
  constructor
  · intro h
    refine rR_sound g v ((List.replicate g.n.toNat false).set v true) hlen (fun x hx => ?_) g.n.toNat u h
    rw [set_get] at hx
    split at hx
    · rename_i e; rw [e.1]; exact Con.refl g _
    · simp only [List.getElem?_replicate] at hx
      split at hx <;> simp at hx
  · intro h
    refine h (fun x => (reached g v)[x]?.getD false = true) (rR_mono g v _ hself _) fun x y hx hxy => ?_
    have hpos : 0 < ((List.replicate g.n.toNat false).set v true).count true := by
      refine List.count_pos_iff.2 (List.mem_iff_getElem.2 ⟨v, by simpa using hv, by simp⟩)
    have hfix : rA g g.n.toNat (reached g v) = reached g v := by
      rcases rR_fix g _ hpos g.n.toNat with e | e
      · exact e
      · have := List.count_le_length (a := true) (l := rR g g.n.toNat ((List.replicate g.n.toNat false).set v true))
        rw [rR_len, hlen] at this
        omega
    have := rA_hit g x y (reached g v) hx (by rw [reached_len]; exact hxy.2.1) hxy.2.2 hxy.2.1 _ hxy.1
    rw [hfix] at this
    exact this

theorem orTo_get (r s : List Bool) (u : Nat) : ∀ k, k ≤ s.length → (orTo r k s)[u]?.getD false = (s[u]?.getD false || (decide (u < k) && r[u]?.getD false))
  | 0, _ => by simp [orTo]
  | k + 1, hk => by
    have ih := orTo_get r s u k (by omega)
    unfold orTo
    rw [set_get, orTo_len]
    by_cases e : k = u
    · subst e
      rw [if_pos ⟨rfl, by omega⟩, ih]
      simp
    · rw [if_neg (by simp [e]), ih]
      congr 2
      apply decide_eq_decide.2
      omega

theorem root_join (F : Nat → Nat) (hF : ∀ v, F v ≤ v) (a b v : Nat) : root (joinF F a b) v = if root F v = max (root F a) (root F b) then min (root F a) (root F b) else root F v := by
  have hJ := joinF_le hF a b
  have ha := root_root hF a
  have hb := root_root hF b
  induction v using Nat.strongRecOn with
  | ind v ih =>
    by_cases h : F v = v
    · rw [root_fix h]
      by_cases h2 : v = max (root F a) (root F b)
      · rw [if_pos h2, root_step hJ]
        have e : joinF F a b v = min (root F a) (root F b) := by unfold joinF; rw [if_pos h2]
        rw [e]
        by_cases h3 : min (root F a) (root F b) = max (root F a) (root F b)
        · apply root_fix
          unfold joinF
          rw [if_pos h3]
        · apply root_fix
          unfold joinF
          rw [if_neg h3]
          rcases Nat.le_total (root F a) (root F b) with h4 | h4
          · rw [Nat.min_eq_left h4]; exact ha
          · rw [Nat.min_eq_right h4]; exact hb
      · rw [if_neg h2]
        apply root_fix
        unfold joinF
        rw [if_neg h2]; exact h
    · have hlt := hF v
      have h2 : v ≠ max (root F a) (root F b) := by
        intro e
        apply h
        rcases Nat.le_total (root F a) (root F b) with h4 | h4
        · rw [e, Nat.max_eq_right h4]; exact hb
        · rw [e, Nat.max_eq_left h4]; exact ha
      rw [root_step hJ]
      have e : joinF F a b v = F v := by unfold joinF; rw [if_neg h2]
      rw [e, ih (F v) (by omega), ← root_step hF]

theorem bet_pos (lo hi : Int) : ∀ es : List E, (∀ x ∈ es, 1 ≤ x.m) → (0 < bet lo hi es ↔ ∃ x ∈ es, x.a = lo ∧ x.b = hi)
  | [], _ => by simp [bet]
  | x :: es, h => by
    have ih := bet_pos lo hi es fun y hy => h y (by simp [hy])
    have hx := h x (by simp)
    unfold bet
    split
    · rename_i e
      refine ⟨fun _ => ⟨x, by simp, e⟩, fun _ => by omega⟩
    · rename_i e
      rw [ih]
      constructor
      · rintro ⟨y, hy, e2⟩; exact ⟨y, by simp [hy], e2⟩
      · rintro ⟨y, hy, e2⟩
        rcases List.mem_cons.1 hy with rfl | hy
        · exact absurd e2 e
        · exact ⟨y, hy, e2⟩

theorem edge_adj {g : G} (h : Gok g) (k : Nat) (hk : k < g.es.length) : Adj g (g.es[k]?.getD default).a.toNat (g.es[k]?.getD default).b.toNat := by
  have he := h.ends k hk
  have hm : (g.es[k]?.getD default) ∈ g.es := by simp [hk]
  refine ⟨by omega, by omega, ?_⟩
  unfold btw
  refine (bet_pos _ _ g.es fun x hx => (h.mem hx).2.2.2.1).2 ⟨_, hm, ?_, ?_⟩ <;> omega

theorem forest_con {g : G} (h : Gok g) : ∀ k, k ≤ g.es.length → ∀ v, Con g (forestTo g k v) v
  | 0, _, v => Con.refl g v
  | k + 1, hk, v => by
    have ih := forest_con h k (by omega)
    have hle := forestTo_le g k
    have hroot : ∀ v, Con g (root (forestTo g k) v) v := by
      intro v
      induction v using Nat.strongRecOn with
      | ind v ih2 =>
        by_cases e : forestTo g k v = v
        · rw [root_fix e]; exact Con.refl g v
        · have := hle v
          rw [root_step hle]
          exact (ih2 _ (by omega)).trans (ih v)
    have hab := (Con.refl g _).step (edge_adj h k (by omega))
    unfold forestTo joinF
    split
    · rename_i e
      rw [e]
      generalize (g.es[k]?.getD default).a.toNat = a at *
      generalize (g.es[k]?.getD default).b.toNat = b at *
      have hr : Con g (root (forestTo g k) a) (root (forestTo g k) b) := ((hroot a).trans hab).trans (hroot b).symm
      rcases Nat.le_total (root (forestTo g k) a) (root (forestTo g k) b) with h4 | h4
      · rw [Nat.min_eq_left h4, Nat.max_eq_right h4]; exact hr
      · rw [Nat.min_eq_right h4, Nat.max_eq_left h4]; exact hr.symm
    · exact ih v

theorem forest_root_con {g : G} (h : Gok g) (v : Nat) : Con g (root (forestTo g g.es.length) v) v := by
  have hle := forestTo_le g g.es.length
  induction v using Nat.strongRecOn with
  | ind v ih2 =>
    by_cases e : forestTo g g.es.length v = v
    · rw [root_fix e]; exact Con.refl g v
    · have := hle v
      rw [root_step hle]
      exact (ih2 _ (by omega)).trans (forest_con h _ (Nat.le_refl _) v)

theorem forest_same {g : G} (j : Nat) : ∀ k, j < k → root (forestTo g k) (g.es[j]?.getD default).a.toNat = root (forestTo g k) (g.es[j]?.getD default).b.toNat
  | 0, hj => by omega
  | k + 1, hj => by
    have hle := forestTo_le g k
    rw [forestTo, root_join _ hle, root_join _ hle]
    by_cases e : j = k
    · subst e
      rcases Nat.le_total (root (forestTo g j) (g.es[j]?.getD default).a.toNat) (root (forestTo g j) (g.es[j]?.getD default).b.toNat) with h4 | h4
      · rw [Nat.min_eq_left h4, Nat.max_eq_right h4]; split <;> simp
      · rw [Nat.min_eq_right h4, Nat.max_eq_left h4]; split <;> simp_all
    · rw [forest_same j k (by omega)]

theorem con_root {g : G} (h : Gok g) (a b : Nat) : Con g a b ↔ root (forestTo g g.es.length) a = root (forestTo g g.es.length) b := by
  constructor
  · intro hc
    refine hc (fun x => root (forestTo g g.es.length) a = root (forestTo g g.es.length) x) rfl fun x y hx hxy => ?_
    refine hx.trans ?_
    obtain ⟨e, he, h1, h2⟩ := (bet_pos _ _ g.es fun x hx => (h.mem hx).2.2.2.1).1 hxy.2.2
    obtain ⟨j, hj, rfl⟩ := List.mem_iff_getElem.1 he
    have hs := forest_same (g := g) j g.es.length hj
    simp only [List.getElem?_eq_getElem hj, Option.getD_some] at hs
    rw [h1, h2] at hs
    rcases Nat.le_total x y with h4 | h4
    · have e1 : (min (x : Int) y).toNat = x := by omega
      have e2 : (max (x : Int) y).toNat = y := by omega
      rw [e1, e2] at hs
      exact hs
    · have e1 : (min (x : Int) y).toNat = y := by omega
      have e2 : (max (x : Int) y).toNat = x := by omega
      rw [e1, e2] at hs
      exact hs.symm
  · intro e
    have h1 := forest_root_con h a
    have h2 := forest_root_con h b
    rw [e] at h1
    exact h1.symm.trans h2

theorem forest_least {g : G} (h : Gok g) (k : Nat) : forestTo g g.es.length k = k ↔ ¬ ∃ j, j < k ∧ Con g j k := by
  have hle := forestTo_le g g.es.length
  constructor
  · rintro e ⟨j, hj, hc⟩
    have h1 := (con_root h j k).1 hc
    rw [root_fix e] at h1
    have := root_le hle j
    omega
  · intro hn
    refine Classical.byContradiction fun e => ?_
    have := hle k
    exact hn ⟨_, by omega, forest_con h _ (Nat.le_refl _) k⟩

theorem partsTo_forest {g : G} (h : Gok g) : ∀ k, k ≤ g.n.toNat → (partsTo g k).1 = (cr (forestTo g g.es.length) k : Int) ∧ ∀ u, u < g.n.toNat → ((partsTo g k).2[u]?.getD false = true ↔ ∃ j, j < k ∧ Con g j u)
  | 0, _ => by
    refine ⟨rfl, fun u hu => ?_⟩
    simp [partsTo, hu]
  | k + 1, hk => by
    obtain ⟨h1, h2⟩ := partsTo_forest h k (by omega)
    have hl := forest_least h k
    have h2k := h2 k (by omega)
    unfold partsTo
    by_cases hs : (partsTo g k).2[k]?.getD false = true
    · rw [if_pos hs]
      obtain ⟨j, hj, hjk⟩ := h2k.1 hs
      have hne : forestTo g g.es.length k ≠ k := fun e => hl.1 e ⟨j, hj, hjk⟩
      rw [cr_no hne]
      refine ⟨h1, fun u hu => (h2 u hu).trans ⟨?_, ?_⟩⟩
      · rintro ⟨i, hi, hc⟩; exact ⟨i, by omega, hc⟩
      · rintro ⟨i, hi, hc⟩
        by_cases e : i = k
        · subst e; exact ⟨j, hj, hjk.trans hc⟩
        · exact ⟨i, by omega, hc⟩
    · rw [if_neg hs]
      have he : forestTo g g.es.length k = k := hl.2 fun hx => hs (h2k.2 hx)
      rw [cr_yes he]
      refine ⟨by simp only; omega, fun u hu => ?_⟩
      simp only
      rw [orTo_get _ _ _ _ (by rw [partsTo_len]; exact Nat.le_refl _)]
      simp only [hu, decide_true, Bool.true_and, Bool.or_eq_true]
      rw [h2 u hu, reached_iff g k u (by omega)]
      constructor
      · rintro (⟨i, hi, hc⟩ | hc)
        · exact ⟨i, by omega, hc⟩
        · exact ⟨k, by omega, hc⟩
      · rintro ⟨i, hi, hc⟩
        by_cases e : i = k
        · subst e; exact .inr hc
        · exact .inl ⟨i, by omega, hc⟩
theorem parts_forest {g : G} (h : Gok g) : parts g = (cr (forestTo g g.es.length) g.n.toNat : Int) := (partsTo_forest h _ (Nat.le_refl _)).1

end Go.Proofs.YtbjoblkigbphhaaGreat
