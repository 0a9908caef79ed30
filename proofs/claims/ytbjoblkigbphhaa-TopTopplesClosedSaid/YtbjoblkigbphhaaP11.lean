/-
  Contract of the program's schedule: Settle.
  Contracts of the program's schedule: run, started, Run, Trace.
-/
import Derived.Test.YtbjoblkigbphhaaP10
namespace Go.Proofs.Ytbjoblkigbphhaa
open Go.RowKit

def seqCnt (g : G) (q : Int) (N : Nat) (s : St) : Nat := (waitN g q N s.L).length
def seqNxt (g : G) (q : Int) (N : Nat) (s : St) (i : Nat) : St := fireS g ((waitN g q N s.L)[i]?.getD 0).toNat s
theorem chGo_sGo (g : G) (q : Int) (N : Nat) (picks : List Int) : ∀ f i s, chGo (seqCnt g q N) (seqNxt g q N) picks f i s = sGo g q N picks f i s
  | 0, i, s => by unfold chGo sGo seqCnt; simp only [List.length_eq_zero_iff]
  | f + 1, i, s => by
    unfold chGo sGo
    simp only [seqCnt, List.length_eq_zero_iff]
    rw [chGo_sGo g q N picks f]
    rfl

theorem sGo_sink {g : G} (hg : Gok g) (q : Nat) (N : Nat) (picks : List Int) (hp : ∀ k ∈ picks, 0 ≤ k) : ∀ f i s r, sGo g q N picks f i s = some r → s.L q ≤ r.L q
  | 0, i, s, r, h => by
    unfold sGo at h
    split at h
    · obtain rfl := Option.some.inj h; exact Int.le_refl _
    · cases h
  | f + 1, i, s, r, h => by
    unfold sGo at h
    split at h
    · obtain rfl := Option.some.inj h; exact Int.le_refl _
    · rename_i hw
      have ih := sGo_sink hg q N picks hp f _ _ r h
      have hc := chosen_bd g q N s.L (pickAt picks i) (pickAt_nn picks hp i) hw
      have h1 : s.L q ≤ (stp g q N picks i s).L q := by
        show s.L q ≤ fireL g _ s.L q
        unfold fireL
        have := rowsF_bd hg (chosen (waitN g q N s.L) (pickAt picks i)).toNat q
        rw [if_neg (by omega)]
        omega
      omega

section
variable (f : Fr)
def seqInv (T0 : TypeId) (k : Nat) (s : St) (w : World) : Prop := (∃ rv, StI T0 f w [rv] s.L s.T) ∧ okS f.N 1048576 k s
def seqInvR (T0 : TypeId) (k : Nat) (s : St) (w : World) : Prop := (∃ rv, StI T0 f w [rv] s.L s.T ∧ w.ownsRow f.W0.heap.size T0 1 rv (waitN f.g f.q f.N s.L).length ((waitN f.g f.q f.N s.L).map (Value.int .i64))) ∧ okS f.N 1048576 k s
end

theorem st_start {T0 t : TypeId} {W0 w w1 : World} {g : G} {ev : Value} {q N bl cl bt bv : Nat} {ds : List Int} {tail : List Value} (hk : Gok g) (hN : g.n = N) (hq : q < N) (hB : Below W0.heap.size W0 w) (hE : EdgesR W0 ev g.es)
    (hB1 : Below w.heap.size w w1)
    (ol : w1.ownsRow w.heap.size T0 1 (.slice (some ⟨bl, 0, none⟩) N cl) N ((vecOf N (dOf ds)).map (Value.int .i64)))
    (ot : w1.ownsRow w.heap.size T0 1 (.slice (some ⟨bt, 0, none⟩) N N) N ((vecOf N fun _ => 0).map (Value.int .i64)))
    (ov : w1.ownsRow w.heap.size T0 1 (.slice (some ⟨bv, 0, none⟩) N N) N ((vecOf N fun v => valence g v).map (Value.int .i64))) (n1 : bl ≠ bt) (n2 : bl ≠ bv) (n3 : bt ≠ bv) :
    StI T0 ⟨W0, w1.heap.size, bl, cl, bt, N, bv, N, N, ev, g, q, t⟩ (w1.alloc (.cells (Value.int .i64 g.n :: ev :: .int .i64 q :: .slice (some ⟨bl, 0, none⟩) N cl :: .slice (some ⟨bt, 0, none⟩) N N :: .slice (some ⟨bv, 0, none⟩) N N :: tail).toArray t)) tail (dOf ds) (fun _ => 0) := by
  have h0 := hB.size
  have h1 := hB1.size
  have l1 := owns_lt ol
  have l2 := owns_lt ot
  have l3 := owns_lt ov
  refine ⟨Blk.new _ _ _, by dsimp only; omega, (owns_base ol h0).alloc _, (owns_base ot h0).alloc _, (owns_base ov h0).alloc _, ?_, ?_, ?_, n1, n2, n3, (up hB hB1).alloc (by omega) _, hE, hk, hN, hq⟩
  all_goals (dsimp only; omega)

/-- What settling is, as the program tells it. -/
theorem settleR_eq {g : G} {q : Nat} {ds picks : List Int} (h : givErr g q ds picks = 0) :
    settleR g q ds picks = match sGo g q g.n.toNat picks maxF 0 ⟨dOf ds, fun _ => 0⟩ with
      | none => .inl 12
      | some s => if 1048576 < s.L q then .inl 11 else .inr s := by
  unfold settleR
  rw [if_neg (by simpa using h)]
  have hc := cfg_ok (giv_ok h).1
  have hp := pk_ok (giv_ok h).2
  show (match sGo g q g.n.toNat picks maxF 0 ⟨dOf ds, fun _ => 0⟩ with | none => _ | some s => _) = _
  cases hs : sGo g q g.n.toNat picks maxF 0 ⟨dOf ds, fun _ => 0⟩ with
  | none => rfl
  | some s =>
    have h1 := sGo_sink hc.1 q g.n.toNat picks hp.2.2 _ _ _ _ hs
    have h2 : -1048576 ≤ dOf ds q := by
      unfold dOf
      have hl : q < ds.length := by have := hc.2.2.1; have := hc.2.2.2.1; omega
      rw [List.getElem?_eq_getElem hl]
      exact (hc.2.2.2.2.1 _ (List.getElem_mem hl)).1
    dsimp only at h1 ⊢
    rw [Int.toNat_natCast]
    by_cases h3 : 1048576 < s.L q
    · rw [if_pos h3, if_neg]
      unfold inB; simp; omega
    · rw [if_neg h3, if_pos]
      unfold inB; simp; omega

end Go.Proofs.Ytbjoblkigbphhaa

namespace Go.Proofs.Ytbjoblkigbphhaa
open Go.RowKit

end Go.Proofs.Ytbjoblkigbphhaa
