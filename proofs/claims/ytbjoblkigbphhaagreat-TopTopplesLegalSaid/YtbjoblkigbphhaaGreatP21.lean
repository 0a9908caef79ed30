/-
  Contracts: equal rows are the same; Triangle; the law's events and few. The law's examples: awake.
-/
import Derived.Test.YtbjoblkigbphhaaGreatP20
namespace Go.Proofs.YtbjoblkigbphhaaGreat
open Go.RowKit

set_option maxRecDepth 100000 in
set_option maxHeartbeats 1000000 in
theorem r17_Order_eq (xs : List Int) (av bv : Value) (w : World) (ha : IntsR w av xs) (hb : IntsR w bv xs) (hx : xs.length ≤ 1000000000) :
    Calls Tryz.prog 67 #[av, bv] w fun e w' => e = .returned (.int .i64 0) ∧ Below w.heap.size w w' := by
  obtain ⟨a, cap, rfl, hcap, hcm, hlen, hc⟩ := ha
  obtain ⟨a', cap', rfl, hcap', hcm', hlen', hc'⟩ := hb
  go_enter Tryz.func67, Tryz.ntmps67
  go_wp2
  go_loopw [5] (fun i wr => ∃ k : Nat, k ≤ xs.length ∧ i = .int .i64 k ∧ Below w.heap.size w wr) (fun i _ => xs.length - (intOf i).toNat)
  case atStart => exact ⟨0, Nat.zero_le _, rfl, Below.refl _ _⟩
  case round =>
    obtain ⟨k, hkn, rfl, hB⟩ := hrel
    by_cases hlt : k < xs.length
    · obtain ⟨b, off, rfl, hb, hcc⟩ := (hc.below hB).int (by omega)
      obtain ⟨b', off', rfl, hb', hcc'⟩ := (hc'.below hB).int (by omega)
      have c1 := hcc k hlt
      have c2 := hcc' k hlt
      clear hcc hcc' hc hc'
      have hk1 : (k : Int) < (xs.length : Int) := by omega
      have hk0 : (0 : Int) ≤ (k : Int) := by omega
      have wk : IntKind.i64.wrap ((k : Int) + 1) = (k : Int) + 1 := IntWalk.i64_in _ (by omega)
      generalize xs[k]?.getD 0 = x at *
      have hxx : ¬ x < x := by omega
      go_wp2
      go_quiet (fail)
      go_wp2
      go_quiet (fail)
      go_wp2
      go_roundw
      case rel => exact ⟨k + 1, by omega, by go_num, below_dN hB _⟩
      case measure => simp [intOf]; omega
    · obtain rfl : k = xs.length := by omega
      go_wp2
      go_ret
      exact ⟨rfl, hB⟩

theorem r17_Same_eq (xs : List Int) (av bv : Value) (w : World) (ha : IntsR w av xs) (hb : IntsR w bv xs) (hx : xs.length ≤ 1000000000) :
    Calls Tryz.prog 43 #[av, bv] w fun e w' => e = .returned (.bool true) ∧ Below w.heap.size w w' := by
  have hO := hid (r17_Order_eq xs av bv w ha hb hx)
  obtain ⟨a, cap, rfl, _⟩ := ha
  obtain ⟨a', cap', rfl, _⟩ := hb
  have hne : ((xs.length : Int) != (xs.length : Int)) = false := by simp
  go_enter Tryz.func43, Tryz.ntmps43
  go_wp2_with (go_at_call 67; refine hO.out.mono ?_; rintro e w1 ⟨rfl, hB1⟩)
  go_ret
  exact ⟨rfl, hB1⟩
theorem r18_SameScripts_eq (xs : List Int) (av bv : Value) (w : World) (ha : IntsR w av xs) (hb : IntsR w bv xs) (hx : xs.length ≤ 1000000000) :
    Calls Tryz.prog 44 #[av, bv] w fun e w' => e = .returned (.bool true) ∧ Below w.heap.size w w' := by
  have hO := hid (r17_Same_eq xs av bv w ha hb hx)
  go_enter Tryz.func44, Tryz.ntmps44
  go_wp2_with (go_at_call 43; refine hO.out.mono ?_; rintro e w1 ⟨rfl, hB1⟩)
  go_ret
  exact ⟨rfl, hB1⟩
theorem r19_Same_eq (xs ys : List Int) (av bv cv dv : Value) (w : World) (ha : IntsR w av xs) (hb : IntsR w bv xs) (hc : IntsR w cv ys) (hd : IntsR w dv ys) (hx : xs.length ≤ 1000000000) (hy : ys.length ≤ 1000000000) :
    Calls Tryz.prog 15 #[av, bv, cv, dv] w fun e w' => e = .returned (.bool true) ∧ Below w.heap.size w w' := by
  have hO := hid (r17_Same_eq xs av bv w ha hb hx)
  have HC := hid hc
  have HD := hid hd
  go_enter Tryz.func15, Tryz.ntmps15
  go_wp2_with (first
    | (go_at_call 43; refine hO.out.mono ?_; rintro e w1 ⟨rfl, hB1⟩)
    | (go_at_call 44; refine (r18_SameScripts_eq ys cv dv w1 (HC.out.below hB1) (HD.out.below hB1) hy).mono ?_; rintro e w2 ⟨rfl, hB2⟩))
  go_ret
  exact ⟨rfl, up hB1 hB2⟩

theorem load_graph {w : World} {b : Nat} {v0 v1 : Value} (h : Blk w b #[v0, v1] 24) : (loadVar 24 ⟨b, 0, none⟩).run Tryz.prog w = .ok (.agg #[v0, v1]) w := by
  have hlt := h.lt
  have c0 := h.cell 0
  have c1 := h.cell 1
  simp only [List.getElem?_toArray, List.getElem?_cons_zero, List.getElem?_cons_succ] at c0 c1
  go_simp
theorem ints_new (w : World) (xs : List Int) (e : TypeId) (n : Nat) (hn : n = xs.length) (h : xs.length ≤ 1000000) : IntsR (w.alloc (.cells (xs.map (Value.int .i64)).toArray e)) (.slice (some ⟨w.heap.size, 0, none⟩) n n) xs := by
  subst hn
  refine ⟨some ⟨w.heap.size, 0, none⟩, xs.length, rfl, Nat.le_refl _, by omega, by omega, .inr ⟨w.heap.size, 0, rfl, by simp, fun i hi => ?_⟩⟩
  rw [Nat.zero_add]
  simp [World.cell?_alloc_new]
theorem pairs_new (w : World) (ps : List (Int × Int)) (e : TypeId) (n : Nat) (hn : n = ps.length) (h : ps.length ≤ 1000000) : PairsR (w.alloc (.cells (pairCells ps).toArray e)) (.slice (some ⟨w.heap.size, 0, none⟩) n n) ps := by
  subst hn
  refine ⟨some ⟨w.heap.size, 0, none⟩, ps.length, rfl, Nat.le_refl _, by omega, by omega, .inr ⟨w.heap.size, 0, rfl, by simp, fun i hi => ?_⟩⟩
  rw [Nat.zero_add]
  simp [World.cell?_alloc_new]

/-- The triangle. -/
def triG : G := ⟨3, [⟨0, 1, 1⟩, ⟨0, 2, 1⟩, ⟨1, 2, 1⟩]⟩
def awE : List (Int × Int) := [(0, 3), (1, 1), (0, 0)]
theorem aw_run : (match runR triG 0 [0, 2, 2] awE with | .inr s => decide (vecOf 3 s.L = [2, 2, 1]) && decide (vecOf 3 s.T = [0, 1, 1]) | _ => false) = true := by kernel_rfl
theorem aw_trace : (match traceR triG 0 [0, 2, 2] awE with | .inr s => decide (s = [2, -1, 1]) | _ => false) = true := by kernel_rfl
theorem aw_settle : (match settleR triG 0 [0, 2, 1] [5, 2] with | .inr s => decide (vecOf 3 s.L = [2, 1, 0]) && decide (vecOf 3 s.T = [0, 1, 1]) | _ => false) = true := by kernel_rfl
theorem aw_drift : (match driftP triG 0 [0, 2, 1] [0] with | .inr s => decide (vecOf 3 s.L = [2, 1, 0]) && decide (vecOf 3 s.T = [0, 1, 1]) && decide (s.most = 2) | _ => false) = true := by kernel_rfl

end Go.Proofs.YtbjoblkigbphhaaGreat

namespace Go.Proofs.YtbjoblkigbphhaaGreat
open Go.RowKit

/-- Rows are handed back that hold these numbers. -/
theorem aw_tri {w w1 : World} {r : Int ⊕ St} {L T : List Int} {e : Ending} (h : (match r with | .inr s => decide (vecOf 3 s.L = L) && decide (vecOf 3 s.T = T) | _ => false) = true) (hr : RetTri 3 w 3 r e w1) :
    Below w.heap.size w w1 ∧ ∃ b1 c1 b2 c2, e = .returned (.tuple #[.slice (some ⟨b1, 0, none⟩) 3 c1, .slice (some ⟨b2, 0, none⟩) 3 c2, .int .i64 0]) ∧ IntsR w1 (.slice (some ⟨b1, 0, none⟩) 3 c1) L ∧ IntsR w1 (.slice (some ⟨b2, 0, none⟩) 3 c2) T := by
  cases r with
  | inl k => cases h
  | inr s =>
    simp only [Bool.and_eq_true, decide_eq_true_eq] at h
    obtain ⟨hB, b1, c1, b2, c2, he, h1, h2⟩ := hr
    rw [h.1] at h1
    rw [h.2] at h2
    have l1 : L.length = 3 := by rw [← h.1, vecOf_len]
    have l2 : T.length = 3 := by rw [← h.2, vecOf_len]
    exact ⟨hB, b1, c1, b2, c2, he, owns_intsN h1 l1 (by omega), owns_intsN h2 l2 (by omega)⟩
theorem aw_quad {w w1 : World} {r : Int ⊕ Dr} {L T : List Int} {m : Int} {e : Ending} (h : (match r with | .inr s => decide (vecOf 3 s.L = L) && decide (vecOf 3 s.T = T) && decide (s.most = m) | _ => false) = true) (hr : RetQuad 3 w 3 r e w1) :
    Below w.heap.size w w1 ∧ ∃ b1 c1 b2 c2, e = .returned (.tuple #[.slice (some ⟨b1, 0, none⟩) 3 c1, .slice (some ⟨b2, 0, none⟩) 3 c2, .int .i64 m, .int .i64 0]) ∧ IntsR w1 (.slice (some ⟨b1, 0, none⟩) 3 c1) L ∧ IntsR w1 (.slice (some ⟨b2, 0, none⟩) 3 c2) T := by
  cases r with
  | inl k => cases h
  | inr s =>
    simp only [Bool.and_eq_true, decide_eq_true_eq] at h
    obtain ⟨hB, b1, c1, b2, c2, he, h1, h2⟩ := hr
    rw [h.1.1] at h1
    rw [h.1.2] at h2
    rw [h.2] at he
    have l1 : L.length = 3 := by rw [← h.1.1, vecOf_len]
    have l2 : T.length = 3 := by rw [← h.1.2, vecOf_len]
    exact ⟨hB, b1, c1, b2, c2, he, owns_intsN h1 l1 (by omega), owns_intsN h2 l2 (by omega)⟩
theorem aw_trc {w w1 : World} {r : Int ⊕ List Int} {L : List Int} {e : Ending} (hL : L.length = 3) (h : (match r with | .inr s => decide (s = L) | _ => false) = true) (hr : RetTrc 3 w r e w1) :
    Below w.heap.size w w1 ∧ ∃ b1 c1, e = .returned (.tuple #[.slice (some ⟨b1, 0, none⟩) 3 c1, .int .i64 0]) ∧ IntsR w1 (.slice (some ⟨b1, 0, none⟩) 3 c1) L := by
  cases r with
  | inl k => cases h
  | inr s =>
    obtain rfl := of_decide_eq_true h
    obtain ⟨hB, v, he, h1⟩ := hr
    obtain ⟨b1, c1, rfl, _⟩ := owns_some h1 (by omega)
    rw [hL] at he h1
    exact ⟨hB, b1, c1, he, owns_intsN h1 hL (by omega)⟩

theorem balloc' {W1 w : World} (h : Below W1.heap.size W1 w) (o : Obj) : Below W1.heap.size W1 (w.alloc o) := h.alloc h.size o
theorem ints_at {w : World} {xs : List Int} {arr : Array Value} {e : TypeId} {n b : Nat} (ha : arr = (xs.map (Value.int .i64)).toArray) (hn : n = xs.length) (h : xs.length ≤ 1000000) (hb : b = w.heap.size) : IntsR (w.alloc (.cells arr e)) (.slice (some ⟨b, 0, none⟩) n n) xs := by
  subst ha hb
  exact ints_new w xs e n hn h
theorem pairs_at {w : World} {ps : List (Int × Int)} {arr : Array Value} {e : TypeId} {n b : Nat} (ha : arr = (pairCells ps).toArray) (hn : n = ps.length) (h : ps.length ≤ 1000000) (hb : b = w.heap.size) : PairsR (w.alloc (.cells arr e)) (.slice (some ⟨b, 0, none⟩) n n) ps := by
  subst ha hb
  exact pairs_new w ps e n hn h
theorem IntsR.alloc {w : World} {v : Value} {xs : List Int} (h : IntsR w v xs) (o : Obj) : IntsR (w.alloc o) v xs := h.below ((Below.refl _ _).alloc (Nat.le_refl _) _)
theorem PairsR.alloc {w : World} {v : Value} {xs : List (Int × Int)} (h : PairsR w v xs) (o : Obj) : PairsR (w.alloc o) v xs := h.below ((Below.refl _ _).alloc (Nat.le_refl _) _)
theorem GrR.alloc {w : World} {v : Value} {g : G} (h : GrR w v g) (o : Obj) : GrR (w.alloc o) v g := h.below ((Below.refl _ _).alloc (Nat.le_refl _) _)

end Go.Proofs.YtbjoblkigbphhaaGreat
