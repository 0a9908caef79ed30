/-
  Contracts of the program's graph: singles (an iterator), Ends.
-/
import Derived.RangeFuncNested
import Derived.RangeFuncBound
import Derived.RangeFuncCalls
import Derived.RangeFuncLeaves
import Derived.RangeFuncBox
import Derived.Shelf.Abstract
import Derived.Shelf.RegionOpen
import Derived.OwnWalkIn
import Derived.TacticsInMore
import Derived.LoopNIn
import Derived.LoopIn
import Derived.Maps.AppendAt
import Derived.Test.YtlhbgainpeehoaaP20
namespace Go.Proofs.Ytlhbgainpeehoaa
open Go.RowKit Go.Shelf
attribute [local go_sem] Oper.semAt_some

/-- What has come when i rounds are over. -/
def sglTo (es : List E) (i : Nat) : List (Nat × Int × Int) := (List.range i).map fun j => (j, (endsOf es)[j]?.getD (0, 0))
theorem sglTo_succ (es : List E) (i : Nat) : sglTo es (i + 1) = sglTo es i ++ [(i, (endsOf es)[i]?.getD (0, 0))] := by simp [sglTo, List.range_succ]
theorem sglTo_length (es : List E) (i : Nat) : (sglTo es i).length = i := by simp [sglTo]
def cntE (es : List E) (k : Nat) : Nat := (endsOf (es.take k)).length
theorem cntE_succ (es : List E) (k : Nat) (hk : k < es.length) : cntE es (k + 1) = cntE es k + (es[k]?.getD default).m.toNat := by
  unfold cntE
  rw [take_step es k hk, endsOf_append, List.length_append]
  simp [endsOf]
theorem cntE_end (es : List E) : cntE es es.length = (endsOf es).length := by unfold cntE; rw [List.take_length]
theorem cntE_le (es : List E) (k : Nat) : cntE es k ≤ (endsOf es).length := by
  have h : endsOf es = endsOf (es.take k) ++ endsOf (es.drop k) := by rw [← endsOf_append, List.take_append_drop]
  unfold cntE
  rw [h, List.length_append]
  omega
theorem ends_at (es : List E) (k j : Nat) (hk : k < es.length) (hj : j < (es[k]?.getD default).m.toNat) : cntE es k + j < (endsOf es).length ∧ (endsOf es)[cntE es k + j]?.getD (0, 0) = ((es[k]?.getD default).a, (es[k]?.getD default).b) := by
  have h1 := cntE_succ es k hk
  have h2 := cntE_le es (k + 1)
  have h : endsOf es = endsOf (es.take (k + 1)) ++ endsOf (es.drop (k + 1)) := by rw [← endsOf_append, List.take_append_drop]
  have h3 : endsOf (es.take (k + 1)) = endsOf (es.take k) ++ List.replicate (es[k]?.getD default).m.toNat ((es[k]?.getD default).a, (es[k]?.getD default).b) := by
    rw [take_step es k hk, endsOf_append]
    simp [endsOf]
  refine ⟨by omega, ?_⟩
  rw [h, List.getElem?_append_left (by show cntE es k + j < cntE es (k + 1); omega), h3, List.getElem?_append_right (by show cntE es k ≤ cntE es k + j; omega)]
  rw [show cntE es k + j - (endsOf (es.take k)).length = j by show cntE es k + j - cntE es k = j; omega]
  simp [hj]

/-- A round leaves what lay below n₀, and every edge's box. -/
def KpE (n₀ : Nat) (W W' : World) : Prop := Below n₀ W W' ∧ ∀ b cs, Blk W b cs 128 → Blk W' b cs 128
theorem KpE.trans {n₀ : Nat} {A B C : World} (h : KpE n₀ A B) (h' : KpE n₀ B C) : KpE n₀ A C := ⟨h.1.trans h'.1, fun b cs hb => h'.2 b cs (h.2 b cs hb)⟩

set_option maxRecDepth 100000 in
set_option maxHeartbeats 2000000 in
theorem singles1_in (F : Fence) (n : Nat) (hF : F.fn 127) (hro : F.round = none) (hn : 1 ≤ n) (l Bg n₀ cap : Nat) (a : Option Addr) (es : List E) (hm : ∀ k, k < es.length → 0 ≤ (es[k]?.getD default).m ∧ (es[k]?.getD default).m ≤ 1000000)
    (hlen : es.length ≤ 1000000) (htot : (endsOf es).length ≤ 1000000) (J Jx : List (Nat × Int × Int) → World → Prop) (W : World) (hJ : AbidesFrom W.heap.size J)
    (hY : ∀ pre x W1, J pre W1 → pre.length < (endsOf es).length → YieldAt F (n - 1) Try.prog l #[.int .i64 (x.1 : Int), .agg #[.int .i64 x.2.1, .int .i64 x.2.2]] W1 fun e W' =>
      (e = .returned (.bool true) ∧ J (pre ++ [x]) W' ∧ KpE n₀ W1 W') ∨ (e = .returned (.bool false) ∧ Jx (pre ++ [x]) W'))
    (hBg : W.cell? ⟨Bg, 1, none⟩ = some (.slice a es.length cap)) (hc : ∀ k, k < es.length → ∃ b off, a = some ⟨b, off, none⟩ ∧ b < n₀ ∧ W.cell? ⟨b, off + k * 3, none⟩ = some (.int .i64 (es[k]?.getD default).a) ∧
      W.cell? ⟨b, off + k * 3 + 1, none⟩ = some (.int .i64 (es[k]?.getD default).b) ∧ W.cell? ⟨b, off + k * 3 + 2, none⟩ = some (.int .i64 (es[k]?.getD default).m)) (hn0 : n₀ ≤ W.heap.size) (h0 : J [] W) :
    CallsIn F n Try.prog 127 #[.func (.yield l) #[] #[], .pointer (some ⟨Bg, 0, none⟩)] W fun e W' => (∃ v, e = .returned v) ∧
      ((∃ ys, ys = sglTo es (endsOf es).length ∧ J ys W') ∨ (∃ pre, True ∧ Jx pre W')) := by
  refine callsIn_of_wp Try.func127 rfl hF ?_ hro
  simp only [Try.ntmps127, List.size_toArray, List.length_cons, List.length_nil, Nat.reduceAdd, Nat.reduceSub, Array.replicate_succ, Array.replicate_zero, List.push_toArray, List.append_toArray, List.nil_append, List.cons_append]
  have HM := hid hm
  have HC := hid hc
  have HJ := hid hJ
  have HY := hid hY
  have HT := hid htot
  clear hm hc hJ hY htot
  gi_wp2
  gi_loopw [3, 9] (fun e i wr => ∃ k c : Nat, k ≤ es.length ∧ Hid (c = cntE es k) ∧ e = .int .i64 c ∧ i = .int .i64 k ∧ Hid (J (sglTo es c) wr) ∧ Hid (Below n₀ W wr) ∧ W.heap.size ≤ wr.heap.size) (fun _ i _ => es.length - (intOf i).toNat)
  case atStart => exact ⟨0, 0, Nat.zero_le _, rfl, rfl, rfl, h0, Below.refl _ _, Nat.le_refl _⟩
  case round =>
    obtain ⟨k, c, hk, HCk, rfl, rfl, HJs, HB, hsz⟩ := hrel
    obtain ⟨W2, rfl⟩ : ∃ W : World, W = wr := ⟨_, rfl⟩
    by_cases hlt : k < es.length
    · obtain ⟨b, off, rfl, hb, c1, c2, c3⟩ := HC.out k hlt
      have d1 := (HB.out.cell (p := ⟨b, off + k * 3, none⟩) hb).trans c1
      have d2 := (HB.out.cell (p := ⟨b, off + k * 3 + 1, none⟩) hb).trans c2
      have d3 := (HB.out.cell (p := ⟨b, off + k * 3 + 2, none⟩) hb).trans c3
      have HE := hid (fun j hj => ends_at es k j hlt hj)
      have HS := hid (cntE_succ es k hlt)
      have hmk := HM.out k hlt
      have hk1 : (k : Int) < (es.length : Int) := by omega
      have hk0 : (0 : Int) ≤ (k : Int) := by omega
      clear c1 c2 c3
      generalize es[k]?.getD default = x at *
      obtain ⟨xa, xb, xm⟩ := x
      dsimp only at d1 d2 d3 hmk HE HS
      obtain ⟨m, rfl⟩ := Int.eq_ofNat_of_zero_le hmk.1
      rw [Int.toNat_natCast] at HE HS
      have HW2 : Hid (Blk (W2.alloc (.cells #[.int .i64 xa, .int .i64 xb, .int .i64 m] 128)) W2.heap.size #[.int .i64 xa, .int .i64 xb, .int .i64 m] 128) := Blk.new _ _ _
      have HJ3 : Hid (J (sglTo es c) (W2.alloc (.cells #[.int .i64 xa, .int .i64 xb, .int .i64 m] 128))) := HJ.out _ _ _ none HJs.out (World.grownBy_alloc _ _ none) (fun r e => by cases e)
      have HB3 : Hid (Below n₀ W (W2.alloc (.cells #[.int .i64 xa, .int .i64 xb, .int .i64 m] 128))) := HB.out.alloc (by omega) _
      gi_wp2
      gi_loopw [3, 15] (fun e jv wr => ∃ j i : Nat, j ≤ m ∧ i = c + j ∧ e = .int .i64 i ∧ jv = .int .i64 j ∧ Hid (J (sglTo es i) wr) ∧ Hid (Below n₀ W wr) ∧ Hid (Blk wr W2.heap.size #[.int .i64 xa, .int .i64 xb, .int .i64 m] 128) ∧ W.heap.size ≤ wr.heap.size) (fun _ jv _ => m - (intOf jv).toNat)
      case atStart => exact ⟨0, c, Nat.zero_le _, rfl, rfl, rfl, HJ3, HB3, HW2, by simp; omega⟩
      case round =>
        clear HJ3 HB3 HW2 HJs HB d1 d2 d3
        obtain ⟨j, i, hj, hi, rfl, rfl, HJi, HBi, HWi, hszi⟩ := hrel
        have HI := hid hi
        clear hi
        obtain ⟨W3, rfl⟩ : ∃ W : World, W = wr := ⟨_, rfl⟩
        by_cases hjm : j < m
        · obtain ⟨q1, q2⟩ := HE.out j hjm
          rw [← HCk.out, ← HI.out] at q1 q2
          have e0 := HWi.out.cell 0
          have e1 := HWi.out.cell 1
          simp only [List.getElem?_toArray, List.getElem?_cons_zero, List.getElem?_cons_succ] at e0 e1
          have hjm1 : (j : Int) < (m : Int) := by omega
          have wi : IntKind.i64.wrap ((i : Int) + 1) = (i : Int) + 1 := IntWalk.i64_in _ (by have := HT.out; omega)
          obtain ⟨fn, tmps, assign, body, hy, hR⟩ := HY.out _ (i, xa, xb) W3 HJi.out (by rw [sglTo_length]; exact q1)
          dsimp only at hy
          have HN : Hid (sglTo es (i + 1) = sglTo es i ++ [(i, xa, xb)]) := by show _ = _; rw [sglTo_succ, q2]
          have HR := hid hR
          clear hR q1 q2
          gi_wp2
          refine HR.out.mono ?_
          rintro e W4 (⟨rfl, hJ4, hk4⟩ | ⟨rfl, hJx4⟩)
          · have HJ4 := hid hJ4
            have HK4 := hid hk4
            clear hJ4 hk4
            gi_wp2
            go_roundw
            case rel =>
              refine ⟨j + 1, i + 1, by omega, by have := HI.out; omega, by go_num, by go_num, ?_, HBi.out.trans HK4.out.1, HK4.out.2 _ _ HWi.out, Nat.le_trans hszi HK4.out.1.size⟩
              rw [HN.out]
              exact HJ4
            case measure => simp [intOf]; omega
          · gi_wp2
            refine bodyPost_ret (results_none rfl _ _ _) rfl ?_
            exact ⟨⟨_, rfl⟩, .inr ⟨_, trivial, hJx4⟩⟩
        · obtain rfl : j = m := by omega
          have hjm1 : ¬ (j : Int) < (j : Int) := by omega
          gi_wp2
          go_roundw
          case rel => exact ⟨k + 1, i, by omega, by show i = _; rw [HS.out, ← HCk.out]; exact HI.out, rfl, by go_num, HJi, HBi, hszi⟩
          case measure => simp [intOf]; omega
    · obtain rfl : k = es.length := by omega
      have hk1 : ¬ (es.length : Int) < (es.length : Int) := by omega
      gi_wp2
      go_end0
      refine ⟨⟨_, rfl⟩, .inl ?_⟩
      rw [← cntE_end, ← HCk.out]
      exact HJs.out

set_option maxHeartbeats 1000000 in
theorem singles_in (F : Fence) (n : Nat) (hF : F.fn 122) (hro : F.round = none) (g0 ev : Value) (w : World) :
    CallsIn F n Try.prog 122 #[.agg #[g0, ev]] w fun e w' => e = .returned (.func (.func 127) #[] #[.pointer (some ⟨w.heap.size, 0, none⟩)]) ∧ w' = w.alloc (.cells #[g0, ev] 24) := by
  refine callsIn_of_wp Try.func122 rfl hF ?_ hro
  simp only [Try.ntmps122, List.size_toArray, List.length_cons, List.length_nil, Nat.reduceAdd, Nat.reduceSub, Array.replicate_succ, Array.replicate_zero, List.push_toArray, List.append_toArray, List.nil_append, List.cons_append]
  gi_wp2
  go_ret
  exact ⟨rfl, rfl⟩

theorem singles_stops (F : Fence) (n : Nat) (hF : F.fn 127) (hro : F.round = none) (hn : 1 ≤ n) (Bg n₀ cap : Nat) (a : Option Addr) (es : List E) (hm : ∀ k, k < es.length → 0 ≤ (es[k]?.getD default).m ∧ (es[k]?.getD default).m ≤ 1000000)
    (hlen : es.length ≤ 1000000) (htot : (endsOf es).length ≤ 1000000) (w : World) (hBg : w.cell? ⟨Bg, 1, none⟩ = some (.slice a es.length cap)) (hBl : Bg < w.heap.size) (hc : ∀ k, k < es.length → ∃ b off, a = some ⟨b, off, none⟩ ∧ b < n₀ ∧ w.cell? ⟨b, off + k * 3, none⟩ = some (.int .i64 (es[k]?.getD default).a) ∧
      w.cell? ⟨b, off + k * 3 + 1, none⟩ = some (.int .i64 (es[k]?.getD default).b) ∧ w.cell? ⟨b, off + k * 3 + 2, none⟩ = some (.int .i64 (es[k]?.getD default).m)) (hn0 : n₀ ≤ w.heap.size) :
    SeqStopsK F n Try.prog 127 #[.pointer (some ⟨Bg, 0, none⟩)] (fun x : Nat × Int × Int => #[Value.int .i64 (x.1 : Int), .agg #[.int .i64 x.2.1, .int .i64 x.2.2]]) (KpE n₀) (fun ys => ys = sglTo es (endsOf es).length) (fun _ => True) (endsOf es).length w := fun l J Jx W hW hJ _ hY h0 => by
  have hs := hW.size
  exact singles1_in F n hF hro hn l Bg n₀ cap a es hm hlen htot J Jx W hJ hY ((hW.cell (p := ⟨Bg, 1, none⟩) hBl).trans hBg) (fun k hk => by
    obtain ⟨b, off, h1, h2, c1, c2, c3⟩ := hc k hk
    exact ⟨b, off, h1, h2, (hW.cell (p := ⟨b, off + k * 3, none⟩) (by dsimp only; omega)).trans c1, (hW.cell (p := ⟨b, off + k * 3 + 1, none⟩) (by dsimp only; omega)).trans c2, (hW.cell (p := ⟨b, off + k * 3 + 2, none⟩) (by dsimp only; omega)).trans c3⟩) (by omega) h0

end Go.Proofs.Ytlhbgainpeehoaa
