/-
  leastaction's members of an empty set, collected.
-/
import Derived.Test.YtbjoblkigbphhaaGreatD1
import Derived.Test.YtbjoblkigbphhaaGreatP30
namespace Go.Proofs.YtbjoblkigbphhaaGreat
set_option linter.unusedVariables false
set_option linter.unusedSimpArgs false
open Go.RowKit Go.Shelf
attribute [local go_sem] Oper.semAt_some

set_option maxRecDepth 100000 in
set_option maxHeartbeats 2000000 in
theorem members1_in (F : Fence) (n : Nat) (hF : F.fn 91) (hro : F.round = none) (l Br : Nat) (J Jx : List Int → World → Prop) (W : World)
    (hb : Blk W Br (setA fun _ => false) 128) (h0 : J [] W) :
    CallsIn F n Tryz.prog 91 #[.func (.yield l) #[] #[], .pointer (some ⟨Br, 0, none⟩)] W fun e W' => (∃ v, e = .returned v) ∧
      ((∃ ys, ys = [] ∧ J ys W') ∨ (∃ pre, True ∧ Jx pre W')) := by
  refine callsIn_of_wp Tryz.func91 rfl hF ?_ hro
  simp only [Tryz.ntmps91, List.size_toArray, List.length_cons, List.length_nil, Nat.reduceAdd, Nat.reduceSub, Array.replicate_succ, Array.replicate_zero, List.push_toArray, List.append_toArray, List.nil_append, List.cons_append]
  have l0 := hb.lt
  have d0 := hb.cell 0
  have d1 := hb.cell 1
  have d2 := hb.cell 2
  have d3 := hb.cell 3
  have d4 := hb.cell 4
  have d5 := hb.cell 5
  have d6 := hb.cell 6
  have d7 := hb.cell 7
  have d8 := hb.cell 8
  have d9 := hb.cell 9
  have d10 := hb.cell 10
  have d11 := hb.cell 11
  rw [setA_at _ _ (by omega)] at d0 d1 d2 d3 d4 d5 d6 d7 d8 d9 d10 d11
  have HJ := hid h0
  clear h0 hb
  gi_wp2
  gi_loopw [6] (fun i wr => ∃ k : Nat, k ≤ 12 ∧ i = .int .i64 k ∧ wr = W) (fun i _ => 12 - (intOf i).toNat)
  case atStart => exact ⟨0, Nat.zero_le _, rfl, rfl⟩
  case round =>
    obtain ⟨k, hk, rfl, rfl⟩ := hrel
    by_cases hlt : k < 12
    · have hk1 : (k : Int) < 12 := by omega
      have hk0 : (0 : Int) ≤ (k : Int) := by omega
      have hix := run_index_set (fun _ => false) k hlt
      have wk : IntKind.i64.wrap ((k : Int) + 1) = (k : Int) + 1 := IntWalk.i64_in _ (by omega)
      gi_wp2
      refine ⟨(fun f h => by cases h), ?_⟩
      gi_wp2
      exact ⟨⟨k + 1, by omega, by simp, trivial⟩, by simp [intOf]; omega⟩
    · obtain rfl : k = 12 := by omega
      gi_wp2
      go_end0
      exact ⟨⟨_, rfl⟩, .inl ⟨[], rfl, HJ.out⟩⟩
theorem members_stops (F : Fence) (n : Nat) (hF : F.fn 91) (hro : F.round = none) (Br : Nat) (w : World) (hb : Blk w Br (setA fun _ => false) 128) :
    SeqStopsK F n Tryz.prog 91 #[.pointer (some ⟨Br, 0, none⟩)] (fun x : Int => #[Value.int .i64 x]) (fun _ _ => True) (fun ys => ys = []) (fun _ => True) 0 w := fun l J Jx W hW hJ _ hY h0 => by
  exact members1_in F n hF hro l Br J Jx W (hb.below (hW.mono (Nat.le_refl _))) h0

set_option maxRecDepth 100000 in
set_option maxHeartbeats 4000000 in
theorem c_appendNone (Br : Nat) (w : World) (hb : Blk w Br (setA fun _ => false) 128) :
    Calls Tryz.prog 90 #[.slice none 0 0, .func (.func 91) #[] #[.pointer (some ⟨Br, 0, none⟩)]] w fun e w' => e = .returned (.slice none 0 0) ∧ Below w.heap.size w w' := by
  refine (callsIn_wide (n := 5)).1 ?_
  have hro : Fence.wide.round = none := rfl
  refine callsIn_of_wp_marks Tryz.func90 rfl trivial ?_ hro
  simp only [Tryz.ntmps90, List.size_toArray, List.length_cons, List.length_nil, Nat.reduceAdd, Nat.reduceSub, Array.replicate_succ, Array.replicate_zero, List.push_toArray, List.append_toArray, List.nil_append, List.cons_append]
  gi_wp2
  obtain ⟨W0, hW0⟩ : ∃ W : World, W = w.alloc (.cells #[.slice none 0 0] 25) := ⟨_, rfl⟩
  have bO : Boxed W0 w.heap.size 25 (.slice none 0 0) := by rw [hW0]; exact Boxed.new _ _ _
  have hB0 : Below w.heap.size w W0 := by rw [hW0]; exact (Below.refl _ _).alloc (Nat.le_refl _) _
  rw [← hW0]
  clear hW0
  refine wpIn_rangeFunc_ownH hro (by omega) (gf := 91) (lb := #[.pointer (some ⟨Br, 0, none⟩)]) rfl trivial (enters_of Tryz.func91 (by kernel_rfl) rfl)
    (members_stops Fence.wide 4 trivial hro Br W0 (hb.below hB0)) (fun _ _ => trivial) (fun _ _ _ _ _ _ _ _ => trivial) (Below.refl _ _) (fun _ => rfl)
    (fun pre W => (∃ v, Boxed W w.heap.size 25 v ∧ v = .slice none 0 0) ∧ Below w.heap.size w W)
    (fun _ _ _ => False)
    ?hI
    (fun _ _ _ _ _ hs _ _ => hs)
    ⟨⟨_, bO, rfl⟩, hB0⟩
    (fun x a' W => True)
    (fun x a' => fun _ _ _ _ _ _ _ => trivial) ?assign ?body ?done ?stop
  case hI =>
    refine OwnFrom.and (fun s W W' row hs hg hrow => ?_) (ownFrom_below (Nat.le_refl _) hB0.size)
    obtain ⟨v, hv, e⟩ := hs
    refine ⟨v, ?_, e⟩
    refine (hg.block _ hv.lt (fun e => ?_)).trans hv
    obtain ⟨_, o, ho, hc⟩ := hrow _ e.symm
    have h1 : W.heap[w.heap.size]? = some (.cells #[v] 25 (0, 0)) := hv
    rw [h1] at ho
    cases ho
    cases hc
  case assign =>
    rintro l pre x W K hI hK
    gi_wp2
    exact hK _ _ (KeepsFrom.refl _ _) trivial hI trivial
  case body =>
    rintro l pre x a' W hl _ _ _ hlt
    exact absurd hlt (Nat.not_lt_zero _)
  case done =>
    rintro D ys W hD rfl ⟨⟨v, hv, rfl⟩, hB⟩ hK
    have hc := hv.cell
    have hs2 := hB0.size
    gi_wp2
    refine ⟨by simp, .inl ⟨_, _, rfl, run_takeDeferred hK, ?_⟩⟩
    exact ⟨_, results_tmp rfl _ _ _, rfl, hB.trans (belowK_b (w := w) (Nat.le_refl _) W D _ _ (by omega) hK rfl rfl)⟩
  case stop =>
    rintro D c pre W _ _ h _
    exact h.elim

set_option maxHeartbeats 1000000 in
theorem c_CollectNone (Br : Nat) (w : World) (hb : Blk w Br (setA fun _ => false) 128) :
    Calls Tryz.prog 69 #[.func (.func 91) #[] #[.pointer (some ⟨Br, 0, none⟩)]] w fun e w' => e = .returned (.slice none 0 0) ∧ Below w.heap.size w w' := by
  have h := hid (c_appendNone Br w hb)
  clear hb
  go_enter Tryz.func69, Tryz.ntmps69
  go_wp2_with fail
  refine h.out.mono ?_
  rintro e w1 ⟨rfl, hB⟩
  dsimp only
  go_wp2_with fail
  go_ret
  exact ⟨rfl, hB⟩
theorem c_members (I : Nat → Bool) (w : World) :
    Calls Tryz.prog 70 #[.agg (setA I)] w fun e w' => ∃ Br, e = .returned (.func (.func 91) #[] #[.pointer (some ⟨Br, 0, none⟩)]) ∧ Blk w' Br (setA I) 128 ∧ Below w.heap.size w w' := by
  have hb := Blk.new w (setA I) 128
  have hB : Below w.heap.size w (w.alloc (.cells (setA I) 128)) := (Below.refl _ _).alloc (Nat.le_refl _) _
  unfold setA at *
  go_enter Tryz.func70, Tryz.ntmps70
  go_wp2_with fail
  go_ret
  exact ⟨_, rfl, hb, hB⟩

end Go.Proofs.YtbjoblkigbphhaaGreat
