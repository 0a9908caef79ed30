/-
  Contracts of the program's graph: singles (an iterator), Ends. Contract of the program's graph: Ends.
-/
import Derived.RangeFuncNested
import Derived.RangeFuncBound
import Derived.RangeFuncCalls
import Derived.RangeFuncLeaves
import Derived.RangeFuncBox
import Derived.Shelf.Abstract
import Derived.Shelf.RegionOpen
import Derived.OwnWalkIn
import Derived.TacticsInMore
import Derived.LoopNIn
import Derived.LoopIn
import Derived.Maps.AppendAt
import Derived.Test.YtbjoblkigbphhaaGreatP1
namespace Go.Proofs.YtbjoblkigbphhaaGreat
open Go.RowKit Go.Shelf
attribute [local go_sem] Oper.semAt_some

/-- What has come when i rounds are over. -/
def sglTo (es : List E) (i : Nat) : List (Nat × Int × Int) := (List.range i).map fun j => (j, (endsOf es)[j]?.getD (0, 0))
theorem sglTo_succ (es : List E) (i : Nat) : sglTo es (i + 1) = sglTo es i ++ [(i, (endsOf es)[i]?.getD (0, 0))] := by simp [sglTo, List.range_succ]
theorem sglTo_length (es : List E) (i : Nat) : (sglTo es i).length = i := by simp [sglTo]
def cntE (es : List E) (k : Nat) : Nat := (endsOf (es.take k)).length
theorem cntE_succ (es : List E) (k : Nat) (hk : k < es.length) : cntE es (k + 1) = cntE es k + (es[k]?.getD default).m.toNat := by
  unfold cntE
  rw [take_step es k hk, endsOf_append, List.length_append]
  simp [endsOf]
theorem cntE_end (es : List E) : cntE es es.length = (endsOf es).length := by unfold cntE; rw [List.take_length]
theorem cntE_le (es : List E) (k : Nat) : cntE es k ≤ (endsOf es).length := by
  have h : endsOf es = endsOf (es.take k) ++ endsOf (es.drop k) := by rw [← endsOf_append, List.take_append_drop]
  unfold cntE
  rw [h, List.length_append]
  omega
theorem ends_at (es : List E) (k j : Nat) (hk : k < es.length) (hj : j < (es[k]?.getD default).m.toNat) : cntE es k + j < (endsOf es).length ∧ (endsOf es)[cntE es k + j]?.getD (0, 0) = ((es[k]?.getD default).a, (es[k]?.getD default).b) := by
  have h1 := cntE_succ es k hk
  have h2 := cntE_le es (k + 1)
  have h : endsOf es = endsOf (es.take (k + 1)) ++ endsOf (es.drop (k + 1)) := by rw [← endsOf_append, List.take_append_drop]
  have h3 : endsOf (es.take (k + 1)) = endsOf (es.take k) ++ List.replicate (es[k]?.getD default).m.toNat ((es[k]?.getD default).a, (es[k]?.getD default).b) := by
    rw [take_step es k hk, endsOf_append]
    simp [endsOf]
  refine ⟨by omega, ?_⟩
  rw [h, List.getElem?_append_left (by show cntE es k + j < cntE es (k + 1); omega), h3, List.getElem?_append_right (by show cntE es k ≤ cntE es k + j; omega)]
  rw [show cntE es k + j - (endsOf (es.take k)).length = j by show cntE es k + j - cntE es k = j; omega]
  simp [hj]

/-- A round leaves what lay below n₀, and every edge's box. -/
def KpE (n₀ : Nat) (W W' : World) : Prop := Below n₀ W W' ∧ ∀ b cs, Blk W b cs 96 → Blk W' b cs 96
theorem KpE.trans {n₀ : Nat} {A B C : World} (h : KpE n₀ A B) (h' : KpE n₀ B C) : KpE n₀ A C := ⟨h.1.trans h'.1, fun b cs hb => h'.2 b cs (h.2 b cs hb)⟩

set_option maxRecDepth 100000 in
set_option maxHeartbeats 2000000 in
theorem singles1_in (F : Fence) (n : Nat) (hF : F.fn 97) (hro : F.round = none) (hn : 1 ≤ n) (l Bg n₀ cap : Nat) (a : Option Addr) (es : List E) (hm : ∀ k, k < es.length → 0 ≤ (es[k]?.getD default).m ∧ (es[k]?.getD default).m ≤ 1000000)
    (hlen : es.length ≤ 1000000) (htot : (endsOf es).length ≤ 1000000) (J Jx : List (Nat × Int × Int) → World → Prop) (W : World) (hJ : AbidesFrom W.heap.size J)
    (hY : ∀ pre x W1, J pre W1 → pre.length < (endsOf es).length → YieldAt F (n - 1) Tryz.prog l #[.int .i64 (x.1 : Int), .agg #[.int .i64 x.2.1, .int .i64 x.2.2]] W1 fun e W' =>
      (e = .returned (.bool true) ∧ J (pre ++ [x]) W' ∧ KpE n₀ W1 W') ∨ (e = .returned (.bool false) ∧ Jx (pre ++ [x]) W'))
    (hBg : W.cell? ⟨Bg, 1, none⟩ = some (.slice a es.length cap)) (hc : ∀ k, k < es.length → ∃ b off, a = some ⟨b, off, none⟩ ∧ b < n₀ ∧ W.cell? ⟨b, off + k * 3, none⟩ = some (.int .i64 (es[k]?.getD default).a) ∧
      W.cell? ⟨b, off + k * 3 + 1, none⟩ = some (.int .i64 (es[k]?.getD default).b) ∧ W.cell? ⟨b, off + k * 3 + 2, none⟩ = some (.int .i64 (es[k]?.getD default).m)) (hn0 : n₀ ≤ W.heap.size) (h0 : J [] W) :
    CallsIn F n Tryz.prog 97 #[.func (.yield l) #[] #[], .pointer (some ⟨Bg, 0, none⟩)] W fun e W' => (∃ v, e = .returned v) ∧
      ((∃ ys, ys = sglTo es (endsOf es).length ∧ J ys W') ∨ (∃ pre, True ∧ Jx pre W')) := by
  refine callsIn_of_wp Tryz.func97 rfl hF ?_ hro
  simp only [Tryz.ntmps97, List.size_toArray, List.length_cons, List.length_nil, Nat.reduceAdd, Nat.reduceSub, Array.replicate_succ, Array.replicate_zero, List.push_toArray, List.append_toArray, List.nil_append, List.cons_append]
  have HM := hid hm
  have HC := hid hc
  have HJ := hid hJ
  have HY := hid hY
  have HT := hid htot
  clear hm hc hJ hY htot
  gi_wp2
  gi_loopw [3, 9] (fun e i wr => ∃ k c : Nat, k ≤ es.length ∧ Hid (c = cntE es k) ∧ e = .int .i64 c ∧ i = .int .i64 k ∧ Hid (J (sglTo es c) wr) ∧ Hid (Below n₀ W wr) ∧ W.heap.size ≤ wr.heap.size) (fun _ i _ => es.length - (intOf i).toNat)
  case atStart => exact ⟨0, 0, Nat.zero_le _, rfl, rfl, rfl, h0, Below.refl _ _, Nat.le_refl _⟩
  case round =>
    obtain ⟨k, c, hk, HCk, rfl, rfl, HJs, HB, hsz⟩ := hrel
    obtain ⟨W2, rfl⟩ : ∃ W : World, W = wr := ⟨_, rfl⟩
    by_cases hlt : k < es.length
    · obtain ⟨b, off, rfl, hb, c1, c2, c3⟩ := HC.out k hlt
      have d1 := (HB.out.cell (p := ⟨b, off + k * 3, none⟩) hb).trans c1
      have d2 := (HB.out.cell (p := ⟨b, off + k * 3 + 1, none⟩) hb).trans c2
      have d3 := (HB.out.cell (p := ⟨b, off + k * 3 + 2, none⟩) hb).trans c3
      have HE := hid (fun j hj => ends_at es k j hlt hj)
      have HS := hid (cntE_succ es k hlt)
      have hmk := HM.out k hlt
      have hk1 : (k : Int) < (es.length : Int) := by omega
      have hk0 : (0 : Int) ≤ (k : Int) := by omega
      clear c1 c2 c3
      generalize es[k]?.getD default = x at *
      obtain ⟨xa, xb, xm⟩ := x
      dsimp only at d1 d2 d3 hmk HE HS
      obtain ⟨m, rfl⟩ := Int.eq_ofNat_of_zero_le hmk.1
      rw [Int.toNat_natCast] at HE HS
      have HW2 : Hid (Blk (W2.alloc (.cells #[.int .i64 xa, .int .i64 xb, .int .i64 m] 96)) W2.heap.size #[.int .i64 xa, .int .i64 xb, .int .i64 m] 96) := Blk.new _ _ _
      have HJ3 : Hid (J (sglTo es c) (W2.alloc (.cells #[.int .i64 xa, .int .i64 xb, .int .i64 m] 96))) := HJ.out _ _ _ none HJs.out (World.grownBy_alloc _ _ none) (fun r e => by cases e)
      have HB3 : Hid (Below n₀ W (W2.alloc (.cells #[.int .i64 xa, .int .i64 xb, .int .i64 m] 96))) := HB.out.alloc (by omega) _
      gi_wp2
      gi_loopw [3, 15] (fun e jv wr => ∃ j i : Nat, j ≤ m ∧ i = c + j ∧ e = .int .i64 i ∧ jv = .int .i64 j ∧ Hid (J (sglTo es i) wr) ∧ Hid (Below n₀ W wr) ∧ Hid (Blk wr W2.heap.size #[.int .i64 xa, .int .i64 xb, .int .i64 m] 96) ∧ W.heap.size ≤ wr.heap.size) (fun _ jv _ => m - (intOf jv).toNat)
      case atStart => exact ⟨0, c, Nat.zero_le _, rfl, rfl, rfl, HJ3, HB3, HW2, by simp; omega⟩
      case round =>
        clear HJ3 HB3 HW2 HJs HB d1 d2 d3
        obtain ⟨j, i, hj, hi, rfl, rfl, HJi, HBi, HWi, hszi⟩ := hrel
        have HI := hid hi
        clear hi
        obtain ⟨W3, rfl⟩ : ∃ W : World, W = wr := ⟨_, rfl⟩
        by_cases hjm : j < m
        · obtain ⟨q1, q2⟩ := HE.out j hjm
          rw [← HCk.out, ← HI.out] at q1 q2
          have e0 := HWi.out.cell 0
          have e1 := HWi.out.cell 1
          simp only [List.getElem?_toArray, List.getElem?_cons_zero, List.getElem?_cons_succ] at e0 e1
          have hjm1 : (j : Int) < (m : Int) := by omega
          have wi : IntKind.i64.wrap ((i : Int) + 1) = (i : Int) + 1 := IntWalk.i64_in _ (by have := HT.out; omega)
          obtain ⟨fn, tmps, assign, body, hy, hR⟩ := HY.out _ (i, xa, xb) W3 HJi.out (by rw [sglTo_length]; exact q1)
          dsimp only at hy
          have HN : Hid (sglTo es (i + 1) = sglTo es i ++ [(i, xa, xb)]) := by show _ = _; rw [sglTo_succ, q2]
          have HR := hid hR
          clear hR q1 q2
          gi_wp2
          refine HR.out.mono ?_
          rintro e W4 (⟨rfl, hJ4, hk4⟩ | ⟨rfl, hJx4⟩)
          · have HJ4 := hid hJ4
            have HK4 := hid hk4
            clear hJ4 hk4
            gi_wp2
            go_roundw
            case rel =>
              refine ⟨j + 1, i + 1, by omega, by have := HI.out; omega, by go_num, by go_num, ?_, HBi.out.trans HK4.out.1, HK4.out.2 _ _ HWi.out, Nat.le_trans hszi HK4.out.1.size⟩
              rw [HN.out]
              exact HJ4
            case measure => simp [intOf]; omega
          · gi_wp2
            refine bodyPost_ret (results_none rfl _ _ _) rfl ?_
            exact ⟨⟨_, rfl⟩, .inr ⟨_, trivial, hJx4⟩⟩
        · obtain rfl : j = m := by omega
          have hjm1 : ¬ (j : Int) < (j : Int) := by omega
          gi_wp2
          go_roundw
          case rel => exact ⟨k + 1, i, by omega, by show i = _; rw [HS.out, ← HCk.out]; exact HI.out, rfl, by go_num, HJi, HBi, hszi⟩
          case measure => simp [intOf]; omega
    · obtain rfl : k = es.length := by omega
      have hk1 : ¬ (es.length : Int) < (es.length : Int) := by omega
      gi_wp2
      go_end0
      refine ⟨⟨_, rfl⟩, .inl ?_⟩
      rw [← cntE_end, ← HCk.out]
      exact HJs.out

set_option maxHeartbeats 1000000 in
theorem singles_in (F : Fence) (n : Nat) (hF : F.fn 79) (hro : F.round = none) (g0 ev : Value) (w : World) :
    CallsIn F n Tryz.prog 79 #[.agg #[g0, ev]] w fun e w' => e = .returned (.func (.func 97) #[] #[.pointer (some ⟨w.heap.size, 0, none⟩)]) ∧ w' = w.alloc (.cells #[g0, ev] 24) := by
  refine callsIn_of_wp Tryz.func79 rfl hF ?_ hro
  simp only [Tryz.ntmps79, List.size_toArray, List.length_cons, List.length_nil, Nat.reduceAdd, Nat.reduceSub, Array.replicate_succ, Array.replicate_zero, List.push_toArray, List.append_toArray, List.nil_append, List.cons_append]
  gi_wp2
  go_ret
  exact ⟨rfl, rfl⟩

theorem singles_stops (F : Fence) (n : Nat) (hF : F.fn 97) (hro : F.round = none) (hn : 1 ≤ n) (Bg n₀ cap : Nat) (a : Option Addr) (es : List E) (hm : ∀ k, k < es.length → 0 ≤ (es[k]?.getD default).m ∧ (es[k]?.getD default).m ≤ 1000000)
    (hlen : es.length ≤ 1000000) (htot : (endsOf es).length ≤ 1000000) (w : World) (hBg : w.cell? ⟨Bg, 1, none⟩ = some (.slice a es.length cap)) (hBl : Bg < w.heap.size) (hc : ∀ k, k < es.length → ∃ b off, a = some ⟨b, off, none⟩ ∧ b < n₀ ∧ w.cell? ⟨b, off + k * 3, none⟩ = some (.int .i64 (es[k]?.getD default).a) ∧
      w.cell? ⟨b, off + k * 3 + 1, none⟩ = some (.int .i64 (es[k]?.getD default).b) ∧ w.cell? ⟨b, off + k * 3 + 2, none⟩ = some (.int .i64 (es[k]?.getD default).m)) (hn0 : n₀ ≤ w.heap.size) :
    SeqStopsK F n Tryz.prog 97 #[.pointer (some ⟨Bg, 0, none⟩)] (fun x : Nat × Int × Int => #[Value.int .i64 (x.1 : Int), .agg #[.int .i64 x.2.1, .int .i64 x.2.2]]) (KpE n₀) (fun ys => ys = sglTo es (endsOf es).length) (fun _ => True) (endsOf es).length w := fun l J Jx W hW hJ _ hY h0 => by
  have hs := hW.size
  exact singles1_in F n hF hro hn l Bg n₀ cap a es hm hlen htot J Jx W hJ hY ((hW.cell (p := ⟨Bg, 1, none⟩) hBl).trans hBg) (fun k hk => by
    obtain ⟨b, off, h1, h2, c1, c2, c3⟩ := hc k hk
    exact ⟨b, off, h1, h2, (hW.cell (p := ⟨b, off + k * 3, none⟩) (by dsimp only; omega)).trans c1, (hW.cell (p := ⟨b, off + k * 3 + 1, none⟩) (by dsimp only; omega)).trans c2, (hW.cell (p := ⟨b, off + k * 3 + 2, none⟩) (by dsimp only; omega)).trans c3⟩) (by omega) h0

end Go.Proofs.YtbjoblkigbphhaaGreat

namespace Go.Proofs.YtbjoblkigbphhaaGreat
set_option linter.unusedVariables false
open Go.RowKit Go.Shelf
attribute [local go_sem] Oper.semAt_some

theorem Tryz.und22 : Tryz.prog.underlying 99 = some (.slice 107) := by kernel_rfl
theorem Tryz.info22 : (Tryz.prog.info? 107).map (fun i => (i.zero, i.size, i.bytes)) = some (some (.agg #[.int .i64 0, .int .i64 0]), 2, 16) := by kernel_rfl

theorem blk_own {β : Type} (B : Nat) (t : TypeId) (cs : β → Array Value) : Own (fun s W => Blk W B (cs s) t) := fun s X Y row hs hg hrow => by
  refine hs.grown hg (fun e => ?_)
  obtain ⟨o, ho, hc⟩ := hrow B e
  have h1 : X.heap[B]? = some (.cells (cs s) t (0, 0)) := hs
  rw [h1] at ho
  cases ho
  cases hc
theorem kpE_b {n₀ : Nat} (w0 : World) (hn : n₀ ≤ w0.heap.size) : ∀ (W : World) (l : Nat) (o o' : Obj), w0.heap.size ≤ l → W.heap[l]? = some o → o.isCells = false → o.isWalk = false → KpE n₀ W (W.putObj l o') := by
  intro W l o o' hl ho hc hw
  refine ⟨belowK_b (w := w0) hn W l o o' hl ho hc hw, fun b cs hb => ?_⟩
  refine hb.grown (grownBy_putObj' W l o') (fun e => ?_)
  obtain rfl : l = b := Option.some.inj e
  have h1 : W.heap[l]? = some (.cells cs 96 (0, 0)) := hb
  rw [h1] at ho
  cases ho
  cases hc
theorem pairs_snoc (pre : List (Nat × Int × Int)) (x : Nat × Int × Int) : pairCells ((pre ++ [x]).map (·.2)) = pairCells (pre.map (·.2)) ++ [.int .i64 x.2.1, .int .i64 x.2.2] := by simp [pairCells]
theorem sgl_map (es : List E) : (sglTo es (endsOf es).length).map (·.2) = endsOf es := by
  unfold sglTo
  rw [List.map_map]
  apply List.ext_getElem
  · simp
  · intro i h1 h2
    simp at h1
    simp [h1]
theorem news22 (W : World) (x y : Int) (e : TypeId) (j : Nat) (u : Value) (h : [Value.int .i64 x, Value.int .i64 y][j]? = some u) : (W.alloc (.cells #[.int .i64 x, .int .i64 y] e)).cell? ((⟨W.heap.size, 0, none⟩ : Addr).add j) = some u := by
  match j, h with
  | 0, h => simp at h; subst h; simp [Addr.add]
  | 1, h => simp at h; subst h; simp [Addr.add]
  | j + 2, h => simp at h

/-- The ends are handed back. -/
def RetEnds (T : TypeId) (w : World) (ps : List (Int × Int)) (e : Ending) (w' : World) : Prop :=
  ∃ v, e = .returned (.tuple #[v, .int .i64 0]) ∧ w'.ownsRow w.heap.size T 2 v ps.length (pairCells ps) ∧ Below w.heap.size w w'

set_option maxRecDepth 100000 in
set_option maxHeartbeats 4000000 in
theorem p_Ends (g : G) (gv : Value) (w : World) (hg : GrR w gv g) (hk : Gok g) :
    Calls Tryz.prog 55 #[gv] w (RetEnds 107 w (endsOf g.es)) := by
  have hg' := hg
  obtain ⟨ev, rfl, a, cap, rfl, hcap, hcm, hlen, hc⟩ := hg'
  obtain ⟨i0, hi, hz0, hz1, hz2⟩ := info_parts Tryz.info22
  refine (callsIn_wide (n := 5)).1 ?_
  have hW : Below w.heap.size w (w.alloc (.cells #[.int .i64 g.n, .slice a g.es.length cap] 24)) := by go_grown
  have hck := hid (p_Check g _ _ (hg.below hW))
  have hbk := hid hk
  rw [show checkErr g = 0 from hk] at hck
  have hro : Fence.wide.round = none := rfl
  refine callsIn_of_wp_marks Tryz.func55 rfl trivial ?_ hro
  simp only [Tryz.ntmps55, List.size_toArray, List.length_cons, List.length_nil, Nat.reduceAdd, Nat.reduceSub, Array.replicate_succ, Array.replicate_zero, List.push_toArray, List.append_toArray, List.nil_append, List.cons_append]
  gi_wp2_with (first
    | (refine ⟨trivial, ?_⟩; gi_at_call 57; refine (callsIn_wide.2 hck.out).mono ?_; rintro e w1 ⟨rfl, hB1⟩; obtain ⟨r1, r2⟩ := bcell hB1; have hs1 := hB1.size; (simp only [World.size_alloc] at hs1); have u1 : w.heap.size < w1.heap.size := (by omega))
    | (refine ⟨trivial, ?_⟩; gi_at_call 79; refine (singles_in Fence.wide 4 trivial hro _ _ _).mono ?_; rintro e w2 ⟨rfl, rfl⟩))
  have hBw1 : Below w.heap.size w w1 := up hW hB1
  have hBk := (Blk.new w #[.int .i64 g.n, .slice a g.es.length cap] 24).below hB1
  have bO := Boxed.new w1 99 (.slice none 0 0)
  have bG := Blk.new (w1.alloc (.cells #[.slice none 0 0] 99)) #[.int .i64 g.n, .slice a g.es.length cap] 24
  rw [World.size_alloc] at bG
  have hB2 : Below w.heap.size w ((w1.alloc (.cells #[.slice none 0 0] 99)).alloc (.cells #[.int .i64 g.n, .slice a g.es.length cap] 24)) := (hBw1.alloc hBw1.size _).alloc (by simp; omega) _
  obtain ⟨W0, hW0⟩ : ∃ W : World, W = ((w1.alloc (.cells #[.slice none 0 0] 99)).alloc (.cells #[.int .i64 g.n, .slice a g.es.length cap] 24)) := ⟨_, rfl⟩
  have hs0 : W0.heap.size = w1.heap.size + 2 := by rw [hW0]; simp
  rw [← hW0] at bG hB2 ⊢
  have bO2 : Boxed W0 w1.heap.size 99 (.slice none 0 0) := by rw [hW0]; exact bO.alloc _
  clear hW0
  have hm : ∀ k, k < g.es.length → 0 ≤ (g.es[k]?.getD default).m ∧ (g.es[k]?.getD default).m ≤ 1000000 := fun k h => by
    have := hbk.out.mem (x := g.es[k]?.getD default) (by rw [List.getElem?_eq_getElem h]; exact List.getElem_mem h)
    omega
  have hgl := hbk.out.len
  have htot : (endsOf g.es).length ≤ 7200 := by
    have := endsOf_len g.es 50 (fun y hy => by have := hbk.out.mem hy; omega)
    omega
  have hcE : ∀ k, k < g.es.length → ∃ b off, a = some ⟨b, off, none⟩ ∧ b < w.heap.size ∧ W0.cell? ⟨b, off + k * 3, none⟩ = some (.int .i64 (g.es[k]?.getD default).a) ∧
      W0.cell? ⟨b, off + k * 3 + 1, none⟩ = some (.int .i64 (g.es[k]?.getD default).b) ∧ W0.cell? ⟨b, off + k * 3 + 2, none⟩ = some (.int .i64 (g.es[k]?.getD default).m) := fun k h => by
    obtain ⟨b, off, h1, h2, h3⟩ := hc.edge (by omega)
    obtain ⟨c1, c2, c3⟩ := h3 k h
    exact ⟨b, off, h1, h2, (hB2.cell (p := ⟨b, off + k * 3, none⟩) h2).trans c1, (hB2.cell (p := ⟨b, off + k * 3 + 1, none⟩) h2).trans c2, (hB2.cell (p := ⟨b, off + k * 3 + 2, none⟩) h2).trans c3⟩
  have bG1 := bG.cell 1
  simp only [List.getElem?_toArray, List.getElem?_cons_zero, List.getElem?_cons_succ] at bG1
  refine wpIn_rangeFunc_ownH hro (by omega) (gf := 97) (lb := #[.pointer (some ⟨w1.heap.size + 1, 0, none⟩)]) rfl trivial (enters_of Tryz.func97 (by kernel_rfl) rfl)
    (singles_stops Fence.wide 4 trivial hro (by omega) (w1.heap.size + 1) w.heap.size cap a g.es hm (by omega) (by omega) W0 bG1 (by omega) hcE hB2.size) KpE.trans (kpE_b W0 hB2.size) (Below.refl _ _) (fun _ => rfl)
    (fun pre W => (∃ v, Boxed W w1.heap.size 99 v ∧ W.ownsRow w.heap.size 107 2 v pre.length (pairCells (pre.map (·.2))) ∧ True) ∧ Below w.heap.size w W)
    (fun _ _ _ => False)
    (OwnFrom.and (Own.from (holdsRow_own w.heap.size w1.heap.size 99 107 2 (fun pre : List (Nat × Int × Int) => pre.length) (fun pre => pairCells (pre.map (·.2))) (fun _ _ => True)) _) (ownFrom_below (Nat.le_refl _) hB2.size))
    (fun _ _ _ _ _ hs _ _ => hs)
    ⟨⟨_, bO2, World.ownsRow_nil _ _ _ _, trivial⟩, hB2⟩
    (fun x a' W => ∃ Bx, Bx ≠ w1.heap.size ∧ Blk W Bx #[.int .i64 x.2.1, .int .i64 x.2.2] 137 ∧ a' = { tmps := #[.agg #[.int .i64 g.n, .slice a g.es.length cap], .pointer (some ⟨w.heap.size, 0, none⟩), .slice none 0 0, .int .i64 0, .int .i64 0, .pointer (some ⟨w1.heap.size, 0, none⟩), undef, .pointer (some ⟨Bx, 0, none⟩),
      .agg #[.int .i64 g.n, .slice a g.es.length cap], .int .i64 0, .int .i64 0, .bool false, undef, .agg #[.int .i64 g.n, .slice a g.es.length cap], .func (.func 97) #[] #[.pointer (some ⟨w1.heap.size + 1, 0, none⟩)], .int .i64 (x.1 : Int), .agg #[.int .i64 x.2.1, .int .i64 x.2.2], undef, undef, undef, undef, undef, undef, undef, undef, undef], defers := [] })
    (fun x a' => by
      rintro s W W' row ⟨Bx, h1, h2, h3⟩ hg hr
      exact ⟨Bx, h1, (blk_own (β := Unit) Bx 137 (fun _ => #[.int .i64 x.2.1, .int .i64 x.2.2])) () W W' row h2 hg (fun r e => (hr r e).2), h3⟩) ?assign ?body ?done ?stop
  case assign =>
    rintro l pre x W K ⟨⟨v, hv, hrow, _⟩, hB⟩ hK
    have hlt := hv.lt
    gi_wp2
    exact hK _ _ ((KeepsOthers.alloc _ _).from _) ⟨(Below.refl _ W).alloc hB.size _, fun b cs hb => hb.alloc _⟩ ⟨⟨v, hv.alloc _, hrow.alloc _, trivial⟩, hB.alloc hB.size _⟩ ⟨W.heap.size, by omega, Blk.new _ _ _, rfl⟩
  case body =>
    rintro l pre x a' W hl ⟨r, hr⟩ ⟨⟨v, hv, hrow, _⟩, hB⟩ ⟨Bx, hBx, bX, rfl⟩ hlt
    have hc := hv.cell
    have e0 := bX.cell 0
    have e1 := bX.cell 1
    simp only [List.getElem?_toArray, List.getElem?_cons_zero, List.getElem?_cons_succ] at e0 e1
    obtain ⟨xi, xa, xb⟩ := x
    dsimp only at e0 e1
    have hle : w.heap.size ≤ w1.heap.size := hBw1.size
    gi_wp2_with (gi_at_builtin; refine wpListIn_append_own _ rfl _ _ 99 rfl w.heap.size 107 i0 (.agg #[.int .i64 0, .int .i64 0]) 2 16 Tryz.und22 hi hz0 hz1 hz2 rfl (by decide) _ _ _ rfl (hrow.alloc _) ⟨W.heap.size, 0, none⟩ 1 1 [.int .i64 xa, .int .i64 xb] rfl rfl (news22 _ _ _ _) (by simp [Value.oneCell']) (by unfold maxLen; omega) (by omega) (by have := hB.size; simp; omega) ?_; intro v' w2 hown' hgrow _; obtain ⟨g', cap', rfl⟩ := ownsRow_succ hown'; obtain ⟨hv1, hv2, hr2, hk2, hb2⟩ := hv.appended (by decide) hrow hB.size hle hown' hgrow; have hc1 := hv1.cell; have hf1 := hv1.frozen)
    refine ⟨hk2.from _, ⟨hb2, fun b cs hb => ?_⟩, ⟨_, hv2, ?_⟩, hB.trans hb2⟩
    · refine ((hb.alloc _).grown hgrow (fun e => owns_blk hb hrow (by decide) b e rfl)).other (fun e => ?_) _ _
      subst e
      have h1 : W.heap[w1.heap.size]? = some (.cells cs 96 (0, 0)) := hb
      have h2 : W.heap[w1.heap.size]? = some (.cells #[v] 99 (0, 0)) := hv
      rw [h1] at h2
      injection h2 with h2
      injection h2 with _ h2
      exact absurd h2 (by decide)
    · rw [pairs_snoc, List.length_append]
      exact hr2
  case done =>
    rintro D ys W hD rfl ⟨⟨v, hv, hrow, _⟩, hB⟩ hK
    have hc := hv.cell
    rw [sgl_map, sglTo_length] at hrow
    have hs2 := hB2.size
    gi_wp2
    refine ⟨by simp, .inl ⟨_, _, rfl, run_takeDeferred hK, ?_⟩⟩
    exact ⟨_, results_tmp2 rfl _ _ _, v, rfl, ownsRow_putObj hrow _ hK rfl, hB.trans (belowK_b (w := w) (Nat.le_refl _) W D _ _ (by omega) hK rfl rfl)⟩
  case stop =>
    rintro D c pre W _ _ h _
    exact h.elim

end Go.Proofs.YtbjoblkigbphhaaGreat
