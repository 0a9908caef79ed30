/-
  Contracts of the program's schedule: neighbours. Contracts of the program's schedule: count and take of a sequential state.
-/
import Derived.Test.YtbjoblkigbphhaaGreatP6
import Derived.Test.YtbjoblkigbphhaaGreatSpec11
namespace Go.Proofs.YtbjoblkigbphhaaGreat
open Go.RowKit

set_option maxRecDepth 100000 in
set_option maxHeartbeats 4000000 in
theorem p_neighbours (g : G) (hk : Gok g) (N : Nat) (hN : g.n = N) (v : Nat) (hv : v < N) (b : Nat) (ev : Value) (w : World) (hb : b < w.heap.size)
    (c0 : w.cell? ⟨b, 0, none⟩ = some (.int .i64 g.n)) (c1 : w.cell? ⟨b, 1, none⟩ = some ev) (hE : EdgesR w ev g.es)
    (fn : Nat) (hfn : ∀ (args : Array Value) (w : World), (callFunc fn args).run Tryz.prog w = .ok (.enter fn args) w) (cp : Value) (I : Nat → Nat → World → Prop)
    (h0 : ∀ w' br, Below w.heap.size w w' → w.heap.size ≤ br → br < w'.heap.size → I br 0 w')
    (hskip : ∀ br u w', u < N → rowsF g v u ≤ 0 → I br u w' → I br (u + 1) w')
    (hcall : ∀ br u w', u < N → 0 < rowsF g v u → w.heap.size ≤ br → br < w'.heap.size → I br u w' →
      Calls Tryz.prog fn #[.int .i64 u, .int .i64 (rowsF g v u), cp] w' fun e w'' => e = .returned (.tuple #[]) ∧ I br (u + 1) w'' ∧ br < w''.heap.size ∧ w''.heap[br]? = w'.heap[br]?) :
    Calls Tryz.prog 128 #[.pointer (some ⟨b, 0, none⟩), .int .i64 v, .func (.func fn) #[] #[cp]] w fun e w' => e = .returned (.tuple #[]) ∧ ∃ br, I br N w' := by
  have HF := hid hfn
  clear hfn
  have H0 := hid h0
  have HS := hid hskip
  have HC := hid hcall
  have HN := hid hN
  have hE' := hE
  obtain ⟨a, cap, rfl, hcap, hcm, hlen, hc⟩ := hE'
  obtain ⟨hn1, hn2⟩ := hk.n
  have hN12 : N ≤ 12 := by omega
  have hmk := run_zer (P := Tryz.prog) 25 3 Tryz.underInts Tryz.infoInt N N (Int.le_refl _) (Int.le_refl _) (by omega)
  rw [hN] at c0
  clear h0 hskip hcall hN hn1 hn2
  have HK := hid hk
  clear hk
  have hend := hid (fun k (h : k < g.es.length) => HK.out.ends k h)
  go_enter Tryz.func128, Tryz.ntmps128
  go_wp2
  have hown0 : (w.alloc (.cells (zer N) 3)).ownsRow w.heap.size 3 1 (.slice (some ⟨w.heap.size, 0, none⟩) N N) N ((vecOf N (rowTo g v 0)).map (Value.int .i64)) := by
    rw [vecOf_congr N (rowTo g v 0) (fun _ => 0) (fun u _ => rowTo_zero g v u)]
    exact owns_zer _ (heap_new _ _) (Nat.le_refl _) (by omega)
  have hB0 : Below w.heap.size w (w.alloc (.cells (zer N) 3)) := (Below.refl _ _).alloc (Nat.le_refl _) _
  clear hmk
  go_loopw [23] (fun i wr => ∃ k : Nat, k ≤ g.es.length ∧ i = .int .i64 k ∧ wr.ownsRow w.heap.size 3 1 (.slice (some ⟨w.heap.size, 0, none⟩) N N) N ((vecOf N (rowTo g v k)).map (Value.int .i64)) ∧ Below w.heap.size w wr)
    (fun i _ => g.es.length - (intOf i).toNat)
  case atStart => exact ⟨0, Nat.zero_le _, rfl, hown0, hB0⟩
  case round =>
    clear hown0 hB0
    obtain ⟨k, hkn, rfl, hown, hB⟩ := hrel
    by_cases hlt : k < g.es.length
    · obtain ⟨b', off', rfl, hb', hcc⟩ := (hc.below hB).edge (by omega)
      obtain ⟨k0, k1, k2⟩ := hcc k hlt
      have hst := hid (fun u => rowTo_step g v k u hlt)
      have hbd := hid (fun u => rowTo_bd HK.out v k u)
      obtain ⟨h1, h2, h3, h4, h5⟩ := hend.out k hlt
      have hNN := HN.out
      clear hcc hc
      have hlt' : (k : Int) < (g.es.length : Int) := by omega
      have hk0 : (0 : Int) ≤ (k : Int) := by omega
      generalize g.es[k]?.getD default = x at *
      obtain ⟨xa, xb, xm⟩ := x
      dsimp only at k0 k1 k2 h1 h2 h3 h4 h5
      obtain ⟨A, rfl⟩ := Int.eq_ofNat_of_zero_le h1
      obtain ⟨B, rfl⟩ := Int.eq_ofNat_of_zero_le (show 0 ≤ xb by omega)
      have hA : A < N := by omega
      have hBN : B < N := by omega
      rw [hNN] at h3
      clear hNN
      have hlw := (owns_lt hown).2
      by_cases hab : A = B
      · subst hab
        have hrow : Hid ((vecOf N (rowTo g v (k + 1))) = (vecOf N (rowTo g v k))) := by
          show _ = _
          refine vecOf_congr _ _ _ fun u hu => ?_
          rw [hst.out]
          unfold rowE
          dsimp only
          simp only [if_true, Int.add_zero]
        clear hst
        go_wp2
        go_roundw
        case rel => exact ⟨k + 1, by omega, by go_num, by rw [hrow.out]; exact hown.alloc _, hB.alloc (by omega) _⟩
        case measure => simp [intOf]; omega
      have hab1 : ¬ ((A : Int) = (B : Int)) := by omega
      have hab2 : ((A : Int) == (B : Int)) = false := by rw [beq_eq_false_iff_ne]; omega
      have hw3 : ∀ j, w.heap.size < wr.heap.size + j := fun j => by omega
      by_cases hav : v = A
      · subst hav
        have hrow : Hid ((vecOf N (rowTo g v (k + 1))) = (vecOf N (rowTo g v k)).set B (rowTo g v k B + xm)) := by
          show _ = _
          rw [vecOf_set]
          refine vecOf_congr _ _ _ fun u hu => ?_
          rw [hst.out]
          unfold rowE
          dsimp only
          by_cases hu2 : u = B
          · subst hu2
            rw [if_pos rfl]
            simp only [hab1, if_true, if_false]
          · rw [if_neg hu2]
            have : ¬ ((B : Int) = (u : Int)) := by omega
            simp only [hab1, this, if_true, if_false, Int.add_zero]
        have y1 := owns_int hown B (by omega)
        rw [vecOf_get _ _ _ (by omega)] at y1
        have f1 := hown.frozenAt B
        have hy := hbd.out B
        have hset : Hid (∀ W : World, W.ownsRow w.heap.size 3 1 (.slice (some ⟨w.heap.size, 0, none⟩) N N) N ((vecOf N (rowTo g v k)).map (Value.int .i64)) →
            (W.setCell ⟨w.heap.size, B, none⟩ (.int .i64 (rowTo g v k B + xm))).ownsRow w.heap.size 3 1 (.slice (some ⟨w.heap.size, 0, none⟩) N N) N ((vecOf N (rowTo g v (k + 1))).map (Value.int .i64))) := fun W hW => by
          rw [hrow.out]
          exact owns_set hW B _
        generalize rowTo g v k B = y at *
        clear hst hrow
        have ww : IntKind.i64.wrap (y + xm) = y + xm := IntWalk.i64_in _ (by omega)
        go_wp2
        let S : World → Prop := fun w' => w'.cell? ⟨wr.heap.size, 1, none⟩ = some (.int .i64 B) ∧ w'.cell? ⟨wr.heap.size, 2, none⟩ = some (.int .i64 xm) ∧ w'.cell? ⟨w.heap.size, B, none⟩ = some (.int .i64 y)
        (refine wp_region_text 8 [0,1,2,3,4,5,6,7] S (by kernel_rfl) (by kernel_rfl) (by intro _ _ d _ _ h; cases d <;> exact h) ?hS ?_; rotate_left; simp only [List.map_cons, List.map_nil, List.getD_cons_zero, List.getD_cons_succ, List.drop_succ_cons, List.drop_zero])
        case hS => exact ⟨by simp, by simp, (((Below.refl wr.heap.size wr).alloc (Nat.le_refl _) _).cell (p := ⟨w.heap.size, _, none⟩) hlw).trans y1⟩
        (repeat ((refine' wpSeq_take rfl _ (by rfl) ?_ ?_; rotate_left; focus (intro w' hS; (try dsimp only at hS); obtain ⟨s1, s2, s3⟩ := hS; go_simp; (first | done | with_reducible rfl)); (try simp only [Act.put, List.setIfInBounds_toArray, List.set_cons_zero, List.set_cons_succ])); (try simp only [Act.put, List.setIfInBounds_toArray, List.set_cons_zero, List.set_cons_succ])))
        refine wpSeq_nil ?_
        clear S
        go_wp2
        go_roundw
        case rel => exact ⟨k + 1, by omega, by go_num, ((hset.out _ hown).alloc _).drew, ((hB.setCell (Nat.le_refl _) _).alloc (by simp; omega) _).drew⟩
        case measure => simp [intOf]; omega
      have hav1 : ¬ ((A : Int) = (v : Int)) := by omega
      have hav2 : ((A : Int) == (v : Int)) = false := by rw [beq_eq_false_iff_ne]; omega
      by_cases hbv : v = B
      · subst hbv
        have hrow : Hid ((vecOf N (rowTo g v (k + 1))) = (vecOf N (rowTo g v k)).set A (rowTo g v k A + xm)) := by
          show _ = _
          rw [vecOf_set]
          refine vecOf_congr _ _ _ fun u hu => ?_
          rw [hst.out]
          unfold rowE
          dsimp only
          by_cases hu2 : u = A
          · subst hu2
            rw [if_pos rfl]
            simp only [hab1, if_true, if_false]
          · rw [if_neg hu2]
            have : ¬ ((A : Int) = (u : Int)) := by omega
            simp only [hab1, this, if_true, if_false, Int.add_zero]
        have y1 := owns_int hown A (by omega)
        rw [vecOf_get _ _ _ (by omega)] at y1
        have f1 := hown.frozenAt A
        have hy := hbd.out A
        have hset : Hid (∀ W : World, W.ownsRow w.heap.size 3 1 (.slice (some ⟨w.heap.size, 0, none⟩) N N) N ((vecOf N (rowTo g v k)).map (Value.int .i64)) →
            (W.setCell ⟨w.heap.size, A, none⟩ (.int .i64 (rowTo g v k A + xm))).ownsRow w.heap.size 3 1 (.slice (some ⟨w.heap.size, 0, none⟩) N N) N ((vecOf N (rowTo g v (k + 1))).map (Value.int .i64))) := fun W hW => by
          rw [hrow.out]
          exact owns_set hW A _
        generalize rowTo g v k A = y at *
        clear hst hrow
        have ww : IntKind.i64.wrap (y + xm) = y + xm := IntWalk.i64_in _ (by omega)
        go_wp2
        let S : World → Prop := fun w' => w'.cell? ⟨wr.heap.size, 0, none⟩ = some (.int .i64 A) ∧ w'.cell? ⟨wr.heap.size, 2, none⟩ = some (.int .i64 xm) ∧ w'.cell? ⟨w.heap.size, A, none⟩ = some (.int .i64 y)
        (refine wp_region_text 8 [0,1,2,3,4,5,6,7] S (by kernel_rfl) (by kernel_rfl) (by intro _ _ d _ _ h; cases d <;> exact h) ?hS ?_; rotate_left; simp only [List.map_cons, List.map_nil, List.getD_cons_zero, List.getD_cons_succ, List.drop_succ_cons, List.drop_zero])
        case hS => exact ⟨by simp, by simp, (((Below.refl wr.heap.size wr).alloc (Nat.le_refl _) _).cell (p := ⟨w.heap.size, _, none⟩) hlw).trans y1⟩
        (repeat ((refine' wpSeq_take rfl _ (by rfl) ?_ ?_; rotate_left; focus (intro w' hS; (try dsimp only at hS); obtain ⟨s1, s2, s3⟩ := hS; go_simp; (first | done | with_reducible rfl)); (try simp only [Act.put, List.setIfInBounds_toArray, List.set_cons_zero, List.set_cons_succ])); (try simp only [Act.put, List.setIfInBounds_toArray, List.set_cons_zero, List.set_cons_succ])))
        refine wpSeq_nil ?_
        clear S
        go_wp2
        go_roundw
        case rel => exact ⟨k + 1, by omega, by go_num, ((hset.out _ hown).alloc _).drew, ((hB.setCell (Nat.le_refl _) _).alloc (by simp; omega) _).drew⟩
        case measure => simp [intOf]; omega
      have hbv1 : ¬ ((B : Int) = (v : Int)) := by omega
      have hbv2 : ((B : Int) == (v : Int)) = false := by rw [beq_eq_false_iff_ne]; omega
      · skip
        have hrow : Hid ((vecOf N (rowTo g v (k + 1))) = (vecOf N (rowTo g v k))) := by
          show _ = _
          refine vecOf_congr _ _ _ fun u hu => ?_
          rw [hst.out]
          unfold rowE
          dsimp only
          simp only [hab1, hav1, hbv1, if_false, Int.add_zero]
        clear hst
        go_wp2
        go_roundw
        case rel => exact ⟨k + 1, by omega, by go_num, by rw [hrow.out]; exact hown.alloc _, hB.alloc (by omega) _⟩
        case measure => simp [intOf]; omega
    · obtain rfl : k = g.es.length := by omega
      have hrw : ∀ u, u < N → (vecOf N (rowTo g v g.es.length))[u]?.getD 0 = rowsF g v u := fun u hu => by rw [vecOf_get _ _ _ hu]; exact rowTo_end HK.out v u
      have hrl : (vecOf N (rowTo g v g.es.length)).length = N := vecOf_len _ _
      have hcw : ∀ u, u < N → wr.cell? ⟨w.heap.size, u, none⟩ = some (.int .i64 (rowsF g v u)) := fun u hu => by
        rw [owns_int hown u hu, hrw u hu]
      have hlw := (owns_lt hown).2
      have HCW := hid hcw
      have hI0 := H0.out wr w.heap.size hB (Nat.le_refl _) hlw
      clear hcw hrw hrl hown hend hc hE c0 c1
      obtain ⟨WA, hWA⟩ : ∃ W : World, W = wr := ⟨_, rfl⟩
      rw [← hWA] at HCW hlw hI0 hB
      rw [← hWA]
      clear hWA
      go_wp2
      go_loopw [64] (fun i wr => ∃ k : Nat, k ≤ N ∧ i = .int .i64 k ∧ w.heap.size < wr.heap.size ∧ Hid (wr.heap[w.heap.size]? = WA.heap[w.heap.size]?) ∧ Hid (I w.heap.size k wr)) (fun i _ => N - (intOf i).toNat)
      case atStart => exact ⟨0, Nat.zero_le _, rfl, hlw, rfl, hI0⟩
      case round =>
        obtain ⟨k, hkn, rfl, hlw, HE, HI⟩ := hrel
        by_cases hlt : k < N
        · have x1 : wr.cell? ⟨w.heap.size, k, none⟩ = some (.int .i64 (rowsF g v k)) := (World.cell?_of_block HE.out).trans (HCW.out k hlt)
          have hk1 : (k : Int) < (N : Int) := by omega
          have hk0 : (0 : Int) ≤ (k : Int) := by omega
          by_cases hx : 0 < rowsF g v k
          · have hC := hid (HC.out w.heap.size k wr hlt hx (Nat.le_refl _) hlw HI.out)
            generalize rowsF g v k = x at *
            go_wp2
            rw [HF.out, Oper.upon_enter]
            refine hC.out.mono ?_
            rintro e w2 ⟨rfl, hI2, hl2, hh2⟩
            have HE2 := hid (hh2.trans HE.out)
            have HI2 := hid hI2
            clear hI2 hh2
            go_simp
            go_wp2
            go_roundw
            case rel => exact ⟨k + 1, by omega, by go_num, hl2, HE2, HI2⟩
            case measure => simp [intOf]; omega
          · have hI2 := hid (HS.out w.heap.size k wr hlt (by omega) HI.out)
            generalize rowsF g v k = x at *
            go_wp2
            go_roundw
            case rel => exact ⟨k + 1, by omega, by go_num, hlw, HE, hI2⟩
            case measure => simp [intOf]; omega
        · obtain rfl : k = N := by omega
          go_wp2
          go_end0
          exact ⟨rfl, _, HI.out⟩

theorem enter_take1 (args : Array Value) (w : World) : (callFunc 129 args).run Tryz.prog w = .ok (.enter 129 args) w := by kernel_rfl

end Go.Proofs.YtbjoblkigbphhaaGreat

namespace Go.Proofs.YtbjoblkigbphhaaGreat
open Go.RowKit

/-- The blocks that stand already, but those with p, are kept. -/
def KeptB (w w' : World) (p : Nat → Prop) : Prop := w.heap.size ≤ w'.heap.size ∧ ∀ k, k < w.heap.size → ¬ p k → w'.heap[k]? = w.heap[k]?
theorem owns_keptB {w w' : World} {p : Nat → Prop} {base : Nat} {e : TypeId} {size : Nat} {v : Value} {n : Nat} {xs : List Value} (h : w.ownsRow base e size v n xs) (hk : KeptB w w' p) (hp : ∀ k, v.ownBlock = some k → ¬ p k) : w'.ownsRow base e size v n xs := by
  refine ⟨h.1, ?_⟩
  rcases h.2 with h0 | ⟨g, cap, cur, rfl, hb, hg, rest⟩
  · exact .inl h0
  · refine .inr ⟨g, cap, cur, rfl, hb, ?_, rest⟩
    rw [hk.2 g (Array.getElem?_eq_some_iff.1 hg).1 (hp g rfl)]; exact hg

theorem fireSt_next (g : G) (v u : Nat) (L : Nat → Int) (i : Nat) : (if i = u then fireSt g v u L u + rowsF g v u else fireSt g v u L i) = fireSt g v (u + 1) L i := by
  unfold fireSt
  by_cases h : i = u
  · subst h; simp
  · rw [if_neg h]
    congr 1
    by_cases h2 : i < u
    · rw [if_pos h2, if_pos (by omega)]
    · rw [if_neg h2, if_neg (by omega)]
theorem fireSt_skip (g : G) (v u : Nat) (L : Nat → Int) (h0 : rowsF g v u = 0) (i : Nat) : fireSt g v u L i = fireSt g v (u + 1) L i := by
  unfold fireSt
  congr 1
  by_cases h : i = u
  · subst h; rw [if_neg (by omega), if_pos (by omega), h0]
  · by_cases h2 : i < u
    · rw [if_pos h2, if_pos (by omega)]
    · rw [if_neg h2, if_neg (by omega)]

set_option maxRecDepth 100000 in
set_option maxHeartbeats 2000000 in
theorem p_count (f : Fr) (w : World) (rv : Value) (L T : Nat → Int) (hS : StI 3 f w [rv] L T) :
    Calls Tryz.prog 124 #[.pointer (some ⟨f.b, 0, none⟩)] w fun e w' => e = .returned (.int .i64 (waitN f.g f.q f.N L).length) ∧ KeptB w w' (fun k => k = f.b) ∧ ∃ v, StI 3 f w' [v] L T ∧
      w'.ownsRow f.W0.heap.size 3 1 v (waitN f.g f.q f.N L).length ((waitN f.g f.q f.N L).map (Value.int .i64)) := by
  obtain ⟨_, hN⟩ := hS.N12
  obtain ⟨c0, c1, c2, c3, c4, c5⟩ := hS.cells
  obtain ⟨l1, l2, l3, l4⟩ := hS.lts
  have hU := hid (p_unstable f.g f.q f.N hN L f.b f.bl f.cl f.bv f.cv w l1 l2 l4 c2 c3 c5 (fun k hk => (hS.leftAt k hk).1) (fun k hk => hS.valsAt k hk))
  have HS := hid hS
  have h6 := (hS.tailAt 0).2
  clear hS c0 c1 c2 c3 c4 c5
  have hb := hid HS.out.hb
  have hst : Hid (∀ (w1 : World) (v : Value), Below w.heap.size w w1 → w1.ownsRow w.heap.size 3 1 v (waitN f.g f.q f.N L).length ((waitN f.g f.q f.N L).map (Value.int .i64)) →
      StI 3 f (w1.setCell ⟨f.b, 6, none⟩ v) [v] L T ∧ (w1.setCell ⟨f.b, 6, none⟩ v).ownsRow f.W0.heap.size 3 1 v (waitN f.g f.q f.N L).length ((waitN f.g f.q f.N L).map (Value.int .i64)) ∧ w1.frozen? ⟨f.b, 6, none⟩ = false ∧ f.b < w1.heap.size ∧ w1.cell? ⟨f.b, 6, none⟩ = some rv ∧ Hid (KeptB w (w1.setCell ⟨f.b, 6, none⟩ v) (fun k => k = f.b))) := fun w1 v hB ho => by
    have h1 := HS.out.mono hB
    refine ⟨h1.setTail 0 v, ?_, (h1.tailAt 0).2, h1.lts.1, (h1.tailAt 0).1, ⟨by simpa using hB.size, fun k hk hne => (Below.heap_setCell w1 ⟨f.b, 6, none⟩ v k hne).trans (hB.block k hk)⟩⟩
    refine owns_base (h1.blk.owns ho (fun e => ?_) 6 v) HS.out.below.size
    have := (ho.lt _ e).1
    omega
  generalize waitN f.g f.q f.N L = wl at *
  obtain ⟨b, hbe⟩ : ∃ b, b = f.b := ⟨_, rfl⟩
  rw [← hbe] at hU hst h6 l1 ⊢
  clear hbe
  go_enter Tryz.func124, Tryz.ntmps124
  go_wp2_with (go_at_call 126; refine hU.out.mono ?_; rintro e w1 ⟨v, rfl, ho, hB1⟩; obtain ⟨s1, s2, s3, s4, s5, s6⟩ := hst.out w1 v hB1 ho; obtain ⟨av, cv, rfl⟩ := owns_slice ho; have HS1 := hid s1; have HS2 := hid s2; clear s1 s2 ho)
  go_ret
  exact ⟨rfl, s6.out, _, HS1.out, HS2.out⟩

set_option maxRecDepth 100000 in
set_option maxHeartbeats 2000000 in
theorem p_take (f : Fr) (w : World) (br lr cr x i : Nat) (L T : Nat → Int) (hS : StI 3 f w [.slice (some ⟨br, 0, none⟩) lr cr] L T) (hbr : br < w.heap.size) (hi : i < lr)
    (hx : w.cell? ⟨br, i, none⟩ = some (.int .i64 x)) (hxN : x < f.N) (hL : ∀ u, u < f.N → -10000000000 ≤ L u ∧ L u ≤ 10000000000) (hT : 0 ≤ T x ∧ T x ≤ 10000000000) :
    Calls Tryz.prog 125 #[.pointer (some ⟨f.b, 0, none⟩), .int .i64 i] w fun e w' => e = .returned (.tuple #[]) ∧
      StI 3 f w' [.slice (some ⟨br, 0, none⟩) lr cr] (fireL f.g x L) (fun u => if u = x then T u + 1 else T u) ∧ KeptB w w' (fun k => k = f.bl ∨ k = f.bt) := by
  have hmf : ∀ (fn : Fn) (first cap : Array Value) (w : World), (Instr.makeFunc fn first cap).run Tryz.prog w = .ok (.func fn first cap) w := fun _ _ _ _ => rfl
  have hvb := val_bd hS.gok x
  have hrb := fun u => rowsF_bd hS.gok x u
  have HL := hid hL
  have HRB := hid hrb
  obtain ⟨_, hN⟩ := hS.N12
  obtain ⟨l1, l2, l3, l4⟩ := hS.lts
  have c6 := (hS.tailAt 0).1
  simp only [List.getElem?_cons_zero] at c6
  have hi1 : (i : Int) < (lr : Int) := by omega
  have hi0 : (0 : Int) ≤ (i : Int) := by omega
  have HSA := hid (fun w1 (h : Below w.heap.size w w1) => hS.mono h)
  -- behind leave
  have hlv : Hid (∀ w1 : World, Below w.heap.size w w1 → Calls Tryz.prog 127 #[.pointer (some ⟨f.b, 0, none⟩), .int .i64 x] w1 fun e w2 => e = .returned (.tuple #[]) ∧
      StI 3 f w2 [.slice (some ⟨br, 0, none⟩) lr cr] (fireSt f.g x 0 L) (fun u => if u = x then T u + 1 else T u) ∧ (∀ b o, b < w1.heap.size → b ≠ f.bl → b ≠ f.bt → w2.cell? ⟨b, o, none⟩ = w1.cell? ⟨b, o, none⟩) ∧ w1.heap.size ≤ w2.heap.size ∧ Hid (KeptB w w2 (fun k => k = f.bl ∨ k = f.bt))) := fun w1 hB => by
    have h1 := HSA.out w1 hB
    obtain ⟨c0, c1, c2, c3, c4, c5⟩ := h1.cells
    obtain ⟨m1, m2, m3, m4⟩ := h1.lts
    have hLx := HL.out x hxN
    refine (p_leave f.N x hxN f.b f.bl f.cl f.bt f.ct f.bv f.cv (L x) (valence f.g x) (T x) w1 m1 m2 m3 m4 h1.n1 h1.n2 h1.n4 c3 c4 c5 (h1.leftAt x hxN).1 (h1.valsAt x hxN) (h1.timesAt x hxN).1 (h1.leftAt x hxN).2 (h1.timesAt x hxN).2
      (by omega) (by omega) (by omega) (by omega) (by omega) (by omega)).mono ?_
    rintro e w2 ⟨rfl, rfl⟩
    refine ⟨rfl, ((h1.drew.setL x _).setT x _).congr (fun u _ => ?_) (fun u _ => ?_), fun b o hb n1 n2 => ?_, by simp, ⟨by have := hB.size; simpa using this, fun k hk hne => ((Below.heap_setCell (w1.drew.setCell ⟨f.bl, x, none⟩ _) ⟨f.bt, x, none⟩ _ k (fun e => hne (.inr e))).trans (Below.heap_setCell w1.drew ⟨f.bl, x, none⟩ _ k (fun e => hne (.inl e)))).trans (hB.block k hk)⟩⟩
    · unfold fireSt
      by_cases e : u = x
      · subst e; simp
      · simp [e]
    · by_cases e : u = x
      · subst e; simp
      · simp [e]
    · refine World.cell?_of_block ?_
      exact ((Below.heap_setCell (w1.drew.setCell ⟨f.bl, x, none⟩ _) ⟨f.bt, x, none⟩ _ b n2).trans (Below.heap_setCell w1.drew ⟨f.bl, x, none⟩ _ b n1))
  -- the neighbours
  have hnb : Hid (∀ (w2 : World) (ba : Nat), StI 3 f w2 [.slice (some ⟨br, 0, none⟩) lr cr] (fireSt f.g x 0 L) (fun u => if u = x then T u + 1 else T u) → ba < w2.heap.size → ba ≠ f.bl → w2.cell? ⟨ba, 0, none⟩ = some (.pointer (some ⟨f.b, 0, none⟩)) →
      Calls Tryz.prog 128 #[.pointer (some ⟨f.b, 0, none⟩), .int .i64 x, .func (.func 129) #[] #[.pointer (some ⟨ba, 0, none⟩)]] w2 fun e w3 => e = .returned (.tuple #[]) ∧
      StI 3 f w3 [.slice (some ⟨br, 0, none⟩) lr cr] (fireL f.g x L) (fun u => if u = x then T u + 1 else T u) ∧ KeptB w2 w3 (fun k => k = f.bl)) := fun w2 ba h2 hba hne hca => by
    obtain ⟨c0, c1, _⟩ := h2.cells
    obtain ⟨m1, m2, m3, m4⟩ := h2.lts
    refine (p_neighbours f.g h2.gok f.N h2.hn x hxN f.b f.ev w2 m1 c0 c1 (h2.edges.below h2.below) 129 enter_take1 (.pointer (some ⟨ba, 0, none⟩))
      (fun br' u w' => StI 3 f w' [.slice (some ⟨br, 0, none⟩) lr cr] (fireSt f.g x u L) (fun u => if u = x then T u + 1 else T u) ∧ ba < w'.heap.size ∧ w'.cell? ⟨ba, 0, none⟩ = some (.pointer (some ⟨f.b, 0, none⟩)) ∧ br' ≠ f.bl ∧ KeptB w2 w' (fun k => k = f.bl)) ?_ ?_ ?_).mono ?_
    · intro w' br' hB h1 h3
      exact ⟨h2.mono hB, Nat.lt_of_lt_of_le hba hB.size, (hB.cell (p := ⟨ba, 0, none⟩) hba).trans hca, by omega, hB.size, fun k hk _ => hB.block k hk⟩
    · rintro br' u w' hu h0 ⟨h3, h4⟩
      have := HRB.out u
      exact ⟨h3.congr (fun i _ => fireSt_skip f.g x u L (by omega) i) (fun _ _ => rfl), h4⟩
    · rintro br' u w' hu h0 h1 h3 ⟨h4, h5, h6, h7, h8⟩
      obtain ⟨_, _, _, k3, _⟩ := h4.cells
      obtain ⟨q1, q2, q3, q4⟩ := h4.lts
      have := HRB.out u
      have hb := HL.out u hu
      have hf : -20000000000 ≤ fireSt f.g x u L u ∧ fireSt f.g x u L u ≤ 10000000000 := by
        unfold fireSt
        rw [if_neg (show ¬ u < u by omega)]
        split <;> omega
      refine (p_take1 f.N u hu f.b ba f.bl f.cl (fireSt f.g x u L u) (rowsF f.g x u) w' q1 h5 q2 h6 k3 (h4.leftAt u hu).1 (h4.leftAt u hu).2 (by omega) (by omega) (by omega) (by omega)).mono ?_
      rintro e w3 ⟨rfl, rfl⟩
      refine ⟨rfl, ⟨(h4.setL u _).congr (fun i _ => fireSt_next f.g x u L i) (fun _ _ => rfl), by simpa using h5, ?_, h7, by simpa using h8.1, fun k hk hne => (Below.heap_setCell w' ⟨f.bl, u, none⟩ _ k hne).trans (h8.2 k hk hne)⟩, by simpa using h3, Below.heap_setCell _ ⟨f.bl, u, none⟩ _ br' h7⟩
      refine Eq.trans ?_ h6
      refine World.cell?_of_block ?_
      exact Below.heap_setCell w' ⟨f.bl, u, none⟩ _ ba hne
    · rintro e w3 ⟨rfl, br', h3, _, _, _, h8⟩
      exact ⟨rfl, h3.congr (fun i hi => by unfold fireSt fireL; rw [if_pos hi]) (fun _ _ => rfl), h8⟩
  clear HSA HRB HL hrb hL hvb
  have hbe : ∃ b, b = f.b := ⟨_, rfl⟩
  have hble : ∃ bl, bl = f.bl := ⟨_, rfl⟩
  have hbte : ∃ bt, bt = f.bt := ⟨_, rfl⟩
  obtain ⟨b, hbe⟩ := hbe
  obtain ⟨bl, hble⟩ := hble
  obtain ⟨bt, hbte⟩ := hbte
  rw [← hbe, ← hble, ← hbte] at hlv
  rw [← hbe, ← hble] at hnb
  rw [← hbe] at c6 l1
  rw [← hble] at l2
  rw [← hbte] at l3
  rw [← hbe]
  have HE1 := hid hble
  have HE2 := hid hbte
  clear hbe hble hbte hS
  have hB0 : Below w.heap.size w (w.alloc (.cells #[.pointer (some ⟨b, 0, none⟩)] 77)) := (Below.refl _ _).alloc (Nat.le_refl _) _
  go_enter Tryz.func125, Tryz.ntmps125
  go_wp2_with (first
    | (go_at_call 127; refine (hlv.out _ hB0).mono ?_; rintro e w2 ⟨rfl, h2, r1, hs2, k2⟩; have h2H := hid h2; clear h2; (simp only [World.size_alloc] at hs2); have d1 := r1 w.heap.size 0 (by simp) (by omega) (by omega); (simp only [World.size_alloc] at r1); (simp at d1))
    | (go_at_call 128; refine (hnb.out w2 w.heap.size h2H.out (by omega) (by omega) d1).mono ?_; rintro e w3 ⟨rfl, h3, k3⟩; have h3H := hid h3; have k3H := hid k3; clear h3 k3))
  go_end0
  exact ⟨rfl, h3H.out, Nat.le_trans k2.out.1 k3H.out.1, fun k hk hne => (k3H.out.2 k (Nat.lt_of_lt_of_le hk k2.out.1) (fun e => hne (.inl (Eq.trans e HE1.out)))).trans (k2.out.2 k hk (fun e => hne (e.imp (fun e => e.trans HE1.out) (fun e => e.trans HE2.out))))⟩

end Go.Proofs.YtbjoblkigbphhaaGreat
