/-
  A region that draws its order, walked once in the order of the text: loads and plain operations yield in every world that meets S; a call or an allocation stands alone where it comes up; what ends the region is forced.
-/
import Derived.Test.YtbjoblkigbphhaaGreatLib
import Derived.StillTail
import Derived.OrdersHeld
namespace Go.Proofs.YtbjoblkigbphhaaGreat
open Go.RowKit

/-- May the operation change the world? -/
def worldly (o : Oper) : Bool :=
  match o.op with
  | .move _ | .assign _ | .pick .. | .load .. | .nilCheck _ | .binOp .. | .unOp .. | .convert .. | .fieldAddr .. | .field .. | .indexAddr .. | .index .. | .slice .. | .build .. | .extract .. | .makeInterface .. | .makeFunc .. | .lookup .. => false
  | .call { callee := .builtin .len, .. } | .call { callee := .builtin .cap, .. } | .call { callee := .builtin .min, .. } | .call { callee := .builtin .max, .. } => false
  | _ => true

section
variable {P : Program} {ops : Array Oper} {md : Region.Mode} {Q : Exit → Act → World → Prop} {S : World → Prop}

def wpAnyW (P : Program) (md : Region.Mode) (ops : Array Oper) (Q : Exit → Act → World → Prop) (S : World → Prop) (n : Nat) (L : Array Bool → Act → World → Prop) : Nat → Array Bool → Act → World → Prop
  | 0, listed, a, w => L listed a w
  | f + 1, listed, a, w => Region.ready md ops listed ≠ [] ∧ ∀ i ∈ Region.ready md ops listed, i < n ∧ wpOp P ops Q i (fun a' w' => S w' ∧ wpAnyW P md ops Q S n L f (listed.setIfInBounds i true) a' w') a w

theorem wpAny_of_headW {n g : Nat} {L : Array Bool → Act → World → Prop} (hL : ∀ listed a w, L listed a w → wpAny P md ops Q g listed a w) :
    ∀ (f : Nat) (listed : Array Bool) (a : Act) (w : World), wpAnyW P md ops Q S n L f listed a w → wpAny P md ops Q (f + g) listed a w
  | 0, listed, a, w, h => by rw [Nat.zero_add]; exact hL _ _ _ h
  | f + 1, listed, a, w, h => by
    rw [show f + 1 + g = (f + g) + 1 by omega]
    exact ⟨fun h0 => absurd h0 h.1, fun i hi => wpOp_mono (fun a' w' h' => wpAny_of_headW hL f _ a' w' h'.2) (h.2 i hi).2⟩

theorem wpAnyW_first {n i : Nat} {oi : Oper} {v : Value} {L : Array Bool → Act → World → Prop} (hi : ops[i]? = some oi) (hsel : ∀ (j : Nat) (o : Oper) cs b, ops[j]? = some o → o.op ≠ .select cs b)
    (hs : Region.sinkB md ops n = true) (hc : Region.chainB md ops n = true) (hn : n < ops.size) (hin : i < n)
    (hQ : ∀ c a w, Q (.panic c) (a.put oi.dst v) w → Q (.panic c) a w)
    (hdone : ∀ listed a w, L listed a w → ∀ j ∈ Region.ready md ops listed, n ≤ j) :
    ∀ (f : Nat) (listed : Array Bool) (a : Act) (w : World), HeadInv md ops n listed →
      (∀ j oj, ops[j]? = some oj → j ≠ i → listed.getD j true = false → (∀ e ∈ oj.after, Region.binds md e = true → e.on ≠ i) → oi.apart ops oj = true) →
      i ∈ Region.ready md ops listed → YieldsIf P ops S oi v a → S w →
      wpAnyW P md ops Q S n L f (listed.setIfInBounds i true) (a.put oi.dst v) w → wpAnyW P md ops Q S n L (f + 1) listed a w := by
  intro f
  induction f with
  | zero =>
    intro listed a w inv _ hr hy hS H
    refine ⟨fun h => (by rw [h] at hr; cases hr), fun j hj => ?_⟩
    by_cases hji : j = i
    · subst hji; exact ⟨hin, hy.wpOp hi hS ⟨hS, H⟩⟩
    · exfalso
      have h1 := hdone _ _ _ H j (ready_mono hj hji)
      exact tail_waits hs hc hn inv (n - i) i rfl hin (mem_ready.1 hr).1 j h1 hj
  | succ f ih =>
    intro listed a w inv hfree hr hy hS H
    refine ⟨fun h => (by rw [h] at hr; cases hr), fun j hj => ?_⟩
    by_cases hji : j = i
    · subst hji; exact ⟨hin, hy.wpOp hi hS ⟨hS, H⟩⟩
    · obtain ⟨hjn, h1⟩ := H.2 j (ready_mono hj hji)
      obtain ⟨hjun, oj, hoj, hall⟩ := mem_ready.1 hj
      have hnot : ∀ e ∈ oj.after, Region.binds md e = true → e.on ≠ i := fun e he hb heq => by
        have h1 := hall e he hb
        have h0 := (mem_ready.1 hr).1
        rw [heq, getD_both h0] at h1
        cases h1
      have h2 := wpOp_putIf hoj (hfree j oj hoj hji hjun hnot) (fun cs b => hsel i oi cs b hi) (fun cs b => hsel j oj cs b hoj) hQ hy h1
      have hfree' : ∀ k ok, ops[k]? = some ok → k ≠ i → (listed.setIfInBounds j true).getD k true = false →
          (∀ e ∈ ok.after, Region.binds md e = true → e.on ≠ i) → oi.apart ops ok = true := fun k ok hk hki hun hno => by
        refine hfree k ok hk hki ?_ hno
        by_cases hjk : j = k
        · subst hjk; exact hjun
        · rw [getD_set_ne true hjk] at hun; exact hun
      refine ⟨hjn, wpOp_mono (fun a' w' h3 => ⟨h3.2.1, ih (listed.setIfInBounds j true) a' w' (inv.set hj hjn) hfree' (ready_mono hr (Ne.symm hji)) h3.1 h3.2.1 ?_⟩) h2⟩
      rw [Array.setIfInBounds_comm _ _ hji]
      exact h3.2.2

/-- What is to be shown, in the order of the text. -/
def wpSeq (P : Program) (ops : Array Oper) (Q : Exit → Act → World → Prop) (S : World → Prop) (R : Act → World → Prop) : List Oper → Act → World → Prop
  | [], a, w => R a w
  | o :: l, a, w =>
    if worldly o = true then
      (Region.wanted o (yielded ops a.tmps) = true ∧ o.wp P a w (fun a' w' => S w' ∧ wpSeq P ops Q S R l a' w') Q) ∨ (Region.wanted o (yielded ops a.tmps) = false ∧ wpSeq P ops Q S R l (a.put o.dst undef) w)
    else ∃ v, YieldsIf P ops S o v a ∧ wpSeq P ops Q S R l (a.put o.dst v) w

theorem wpSeq_nil {R : Act → World → Prop} {a : Act} {w : World} (h : R a w) : wpSeq P ops Q S R [] a w := h
theorem wpSeq_take {R : Act → World → Prop} {a : Act} {w : World} {o : Oper} {l : List Oper} (ho : worldly o = false) (v : Value) (hg : Region.wanted o (yielded ops a.tmps) = true)
    (hr : ∀ w', S w' → (execOp a.eval o).run P w' = .ok (.value v) w') (h : wpSeq P ops Q S R l (a.put o.dst v) w) : wpSeq P ops Q S R (o :: l) a w := by
  unfold wpSeq
  rw [if_neg (by rw [ho]; simp)]
  exact ⟨v, .inl ⟨hg, hr⟩, h⟩
theorem wpSeq_skip {R : Act → World → Prop} {a : Act} {w : World} {o : Oper} {l : List Oper} (hg : Region.wanted o (yielded ops a.tmps) = false)
    (h : wpSeq P ops Q S R l (a.put o.dst undef) w) : wpSeq P ops Q S R (o :: l) a w := by
  unfold wpSeq
  split
  · exact .inr ⟨hg, h⟩
  · exact ⟨undef, .inr ⟨hg, rfl⟩, h⟩
theorem wpSeq_call {R : Act → World → Prop} {a : Act} {w : World} {o : Oper} {l : List Oper} (ho : worldly o = true) (hg : Region.wanted o (yielded ops a.tmps) = true)
    (h : ∀ K : Act → World → Prop, (∀ a' w', S w' → wpSeq P ops Q S R l a' w' → K a' w') → o.wp P a w K Q) : wpSeq P ops Q S R (o :: l) a w := by
  unfold wpSeq
  rw [if_pos ho]
  exact .inl ⟨hg, h _ fun a' w' h1 h2 => ⟨h1, h2⟩⟩

def lexHeadW (md : Region.Mode) (ops : Array Oper) (g n : Nat) : List Nat → Array Bool → Bool
  | [], listed => Region.seqB md ops g n listed
  | k :: ks, listed => decide (k < n) && (Region.ready md ops listed).contains k && (match ops[k]? with
      | some o => if worldly o then decide (Region.ready md ops listed = [k]) else Region.free md ops listed k
      | none => false) && lexHeadW md ops g n ks (listed.setIfInBounds k true)

theorem wpAnyW_lex {n g : Nat} {R : Act → World → Prop} (hsel : Region.noSelect ops = true) (hs : Region.sinkB md ops n = true) (hc : Region.chainB md ops n = true) (hn : n < ops.size)
    (hQ : ∀ c a d v w, Q (.panic c) (Act.put a d v) w → Q (.panic c) a w) :
    ∀ (ks : List Nat) (listed : Array Bool) (a : Act) (w : World), HeadInv md ops n listed →
    lexHeadW md ops g n ks listed = true → S w → wpSeq P ops Q S R (ks.map fun k => ops.getD k default) a w →
    wpAnyW P md ops Q S n (fun listed' a' w' => Region.seqB md ops g n listed' = true ∧ R a' w') ks.length listed a w
  | [], listed, a, w, _, hB, _, h => ⟨by simpa [lexHeadW] using hB, h⟩
  | k :: ks, listed, a, w, inv, hB, hS, h => by
    simp only [lexHeadW, Bool.and_eq_true, decide_eq_true_eq] at hB
    obtain ⟨⟨⟨hkn, hr⟩, hf⟩, hB'⟩ := hB
    have hr' : k ∈ Region.ready md ops listed := by simpa using hr
    obtain ⟨o, h0⟩ : ∃ o, ops[k]? = some o := ⟨ops[k], by simp [show k < ops.size by omega]⟩
    have he : ops.getD k default = o := by simp [Array.getD_eq_getD_getElem?, h0]
    simp only [h0] at hf
    rw [List.map_cons, he] at h
    have ih := fun a' w' (hS' : S w') (h' : wpSeq P ops Q S R (ks.map fun k => ops.getD k default) a' w') => wpAnyW_lex (g := g) hsel hs hc hn hQ ks (listed.setIfInBounds k true) a' w' (inv.set hr' hkn) hB' hS' h'
    by_cases hw : worldly o = true
    · rw [if_pos hw] at hf
      have hone : Region.ready md ops listed = [k] := by simpa using hf
      unfold wpSeq at h
      rw [if_pos hw] at h
      refine ⟨fun h1 => (by rw [hone] at h1; cases h1), fun i hi => ?_⟩
      rw [hone] at hi
      obtain rfl : i = k := by simpa using hi
      refine ⟨hkn, ?_⟩
      unfold wpOp
      simp only [h0]
      rcases h with ⟨hg, h⟩ | ⟨hg, h⟩
      · rw [if_pos hg]
        have hop : wpOp P ops Q i (fun a' w' => S w' ∧ wpSeq P ops Q S R (ks.map fun k => ops.getD k default) a' w') a w := by unfold wpOp; simp only [h0]; rw [if_pos hg]; exact .inl h
        have := wpOp_mono (fun a' w' h' => (⟨h'.1, ih a' w' h'.1 h'.2⟩ : S w' ∧ _)) hop
        unfold wpOp at this
        simp only [h0] at this
        rw [if_pos hg] at this
        exact this
      · rw [if_neg (by rw [hg]; simp)]
        exact ⟨hS, ih _ _ hS h⟩
    · rw [if_neg hw] at hf
      unfold wpSeq at h
      rw [if_neg hw] at h
      obtain ⟨v, hy, h⟩ := h
      exact wpAnyW_first h0 (Region.noSelect_spec hsel) hs hc hn hkn (fun c a w => hQ c a o.dst v w) (fun listed' a' w' hL => seqB_ready hL.1) ks.length listed a w inv (Region.free_spec h0 hf) hr' hy hS (ih _ _ hS h)

def textB (ops : Array Oper) (n : Nat) (ks : List Nat) : Bool :=
  Region.noSelect ops && decide (n < ops.size) && decide (ks.length = n) && Region.sinkB .any ops n && Region.chainB .any ops n && lexHeadW .any ops (ops.size - n) n ks (Array.replicate ops.size false)

/-- A region, walked in the order ks up to operation n, and on from there in the order of the text. -/
theorem wp_region_text {id : Nat} {a : Act} {w : World} {l : List Oper} (n : Nat) (ks : List Nat) (S : World → Prop) (hm : P.follows .mixedOrders = true) (hB : textB l.toArray n ks = true)
    (hQ : ∀ c a d v w, Q (.panic c) (Act.put a d v) w → Q (.panic c) a w) (hS : S w.drew)
    (h : wpSeq P l.toArray Q S (fun a' w' => wpList P l.toArray Q (l.drop n) a' w') (ks.map fun k => l.getD k default) a w.drew) : (Code.region id l.toArray true).wp P Q a w := by
  unfold textB at hB
  simp only [Bool.and_eq_true, decide_eq_true_eq] at hB
  obtain ⟨⟨⟨⟨⟨hsel, hn⟩, hkl⟩, hs⟩, hc⟩, hlex⟩ := hB
  have hn' : n < l.length := by simpa using hn
  have hdl : (l.drop n).length = l.toArray.size - n := by simp
  have inv0 : HeadInv .any l.toArray n (Array.replicate l.toArray.size false) :=
    ⟨by simp, fun j oj _ hl => (by rw [getD_replicate_false] at hl; cases hl), fun t _ ht => getD_in (by simpa using ht) (getD_replicate_false _ _)⟩
  have he : (ks.map fun k => l.toArray.getD k default) = ks.map fun k => l.getD k default := by
    apply List.map_congr_left
    intro k _
    simp [Array.getD_eq_getD_getElem?]
  have H := wpAnyW_lex (md := .any) (g := l.toArray.size - n) (R := fun a' w' => wpList P l.toArray Q (l.drop n) a' w') hsel hs hc hn hQ ks _ a w.drew inv0 hlex hS (by rw [he]; exact h)
  refine wp_region_any hm ?_
  have := wpAny_of_headW (Q := Q) (g := l.toArray.size - n) (fun listed a' w' hL => by
    have := wpAny_of_seq (md := .any) (Q' := Q) (l.drop n) n listed a' w' (fun j => by simp [List.getElem?_drop]) (by rw [hdl]; exact hL.1) hL.2
    rwa [hdl] at this) _ _ _ _ H
  rw [hkl, show n + (l.toArray.size - n) = l.toArray.size by omega] at this
  exact this
end

end Go.Proofs.YtbjoblkigbphhaaGreat
