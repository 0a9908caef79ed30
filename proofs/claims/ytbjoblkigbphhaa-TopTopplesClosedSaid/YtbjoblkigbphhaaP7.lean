/-
  Contracts of the program's schedule: neighbours. Contracts of the program's schedule: count and take of a sequential state.
-/
import Derived.Test.YtbjoblkigbphhaaP6
import Derived.Test.YtbjoblkigbphhaaSpec11
namespace Go.Proofs.Ytbjoblkigbphhaa
open Go.RowKit

set_option maxRecDepth 100000 in
set_option maxHeartbeats 4000000 in
theorem p_neighbours (g : G) (hk : Gok g) (N : Nat) (hN : g.n = N) (v : Nat) (hv : v < N) (b : Nat) (ev : Value) (w : World) (hb : b < w.heap.size)
    (c0 : w.cell? ⟨b, 0, none⟩ = some (.int .i64 g.n)) (c1 : w.cell? ⟨b, 1, none⟩ = some ev) (hE : EdgesR w ev g.es)
    (fn : Nat) (hfn : ∀ (args : Array Value) (w : World), (callFunc fn args).run Try.prog w = .ok (.enter fn args) w) (cp : Value) (I : Nat → Nat → World → Prop)
    (h0 : ∀ w' br, Below w.heap.size w w' → w.heap.size ≤ br → br < w'.heap.size → I br 0 w')
    (hskip : ∀ br u w', u < N → rowsF g v u ≤ 0 → I br u w' → I br (u + 1) w')
    (hcall : ∀ br u w', u < N → 0 < rowsF g v u → w.heap.size ≤ br → br < w'.heap.size → I br u w' →
      Calls Try.prog fn #[.int .i64 u, .int .i64 (rowsF g v u), cp] w' fun e w'' => e = .returned (.tuple #[]) ∧ I br (u + 1) w'' ∧ br < w''.heap.size ∧ w''.heap[br]? = w'.heap[br]?) :
    Calls Try.prog 117 #[.pointer (some ⟨b, 0, none⟩), .int .i64 v, .func (.func fn) #[] #[cp]] w fun e w' => e = .returned (.tuple #[]) ∧ ∃ br, I br N w' := by
  have HF := hid hfn
  clear hfn
  have H0 := hid h0
  have HS := hid hskip
  have HC := hid hcall
  have HN := hid hN
  have hE' := hE
  obtain ⟨a, cap, rfl, hcap, hcm, hlen, hc⟩ := hE'
  obtain ⟨hn1, hn2⟩ := hk.n
  have hN12 : N ≤ 12 := by omega
  have hmk := run_zer (P := Try.prog) 25 3 Try.underInts Try.infoInt N N (Int.le_refl _) (Int.le_refl _) (by omega)
  rw [hN] at c0
  clear h0 hskip hcall hN hn1 hn2
  have HK := hid hk
  clear hk
  have hend := hid (fun k (h : k < g.es.length) => HK.out.ends k h)
  go_enter Try.func117, Try.ntmps117
  go_wp2
  have hown0 : (w.alloc (.cells (zer N) 3)).ownsRow w.heap.size 3 1 (.slice (some ⟨w.heap.size, 0, none⟩) N N) N ((vecOf N (rowTo g v 0)).map (Value.int .i64)) := by
    rw [vecOf_congr N (rowTo g v 0) (fun _ => 0) (fun u _ => rowTo_zero g v u)]
    exact owns_zer _ (heap_new _ _) (Nat.le_refl _) (by omega)
  have hB0 : Below w.heap.size w (w.alloc (.cells (zer N) 3)) := (Below.refl _ _).alloc (Nat.le_refl _) _
  clear hmk
  go_loopw [23] (fun i wr => ∃ k : Nat, k ≤ g.es.length ∧ i = .int .i64 k ∧ wr.ownsRow w.heap.size 3 1 (.slice (some ⟨w.heap.size, 0, none⟩) N N) N ((vecOf N (rowTo g v k)).map (Value.int .i64)) ∧ Below w.heap.size w wr)
    (fun i _ => g.es.length - (intOf i).toNat)
  case atStart => exact ⟨0, Nat.zero_le _, rfl, hown0, hB0⟩
  case round =>
    clear hown0 hB0
    obtain ⟨k, hkn, rfl, hown, hB⟩ := hrel
    by_cases hlt : k < g.es.length
    · obtain ⟨b', off', rfl, hb', hcc⟩ := (hc.below hB).edge (by omega)
      obtain ⟨k0, k1, k2⟩ := hcc k hlt
      have hst := hid (fun u => rowTo_step g v k u hlt)
      have hbd := hid (fun u => rowTo_bd HK.out v k u)
      obtain ⟨h1, h2, h3, h4, h5⟩ := hend.out k hlt
      have hNN := HN.out
      clear hcc hc
      have hlt' : (k : Int) < (g.es.length : Int) := by omega
      have hk0 : (0 : Int) ≤ (k : Int) := by omega
      generalize g.es[k]?.getD default = x at *
      obtain ⟨xa, xb, xm⟩ := x
      dsimp only at k0 k1 k2 h1 h2 h3 h4 h5
      obtain ⟨A, rfl⟩ := Int.eq_ofNat_of_zero_le h1
      obtain ⟨B, rfl⟩ := Int.eq_ofNat_of_zero_le (show 0 ≤ xb by omega)
      have hA : A < N := by omega
      have hBN : B < N := by omega
      rw [hNN] at h3
      clear hNN
      have hlw := (owns_lt hown).2
      by_cases hab : A = B
      · subst hab
        have hrow : Hid ((vecOf N (rowTo g v (k + 1))) = (vecOf N (rowTo g v k))) := by
          show _ = _
          refine vecOf_congr _ _ _ fun u hu => ?_
          rw [hst.out]
          unfold rowE
          dsimp only
          simp only [if_true, Int.add_zero]
        clear hst
        go_wp2
        go_roundw
        case rel => exact ⟨k + 1, by omega, by go_num, by rw [hrow.out]; exact hown.alloc _, hB.alloc (by omega) _⟩
        case measure => simp [intOf]; omega
      have hab1 : ¬ ((A : Int) = (B : Int)) := by omega
      have hab2 : ((A : Int) == (B : Int)) = false := by rw [beq_eq_false_iff_ne]; omega
      have hw3 : ∀ j, w.heap.size < wr.heap.size + j := fun j => by omega
      by_cases hav : v = A
      · subst hav
        have hrow : Hid ((vecOf N (rowTo g v (k + 1))) = (vecOf N (rowTo g v k)).set B (rowTo g v k B + xm)) := by
          show _ = _
          rw [vecOf_set]
          refine vecOf_congr _ _ _ fun u hu => ?_
          rw [hst.out]
          unfold rowE
          dsimp only
          by_cases hu2 : u = B
          · subst hu2
            rw [if_pos rfl]
            simp only [hab1, if_true, if_false]
          · rw [if_neg hu2]
            have : ¬ ((B : Int) = (u : Int)) := by omega
            simp only [hab1, this, if_true, if_false, Int.add_zero]
        have y1 := owns_int hown B (by omega)
        rw [vecOf_get _ _ _ (by omega)] at y1
        have f1 := hown.frozenAt B
        have hy := hbd.out B
        have hset : Hid (∀ W : World, W.ownsRow w.heap.size 3 1 (.slice (some ⟨w.heap.size, 0, none⟩) N N) N ((vecOf N (rowTo g v k)).map (Value.int .i64)) →
            (W.setCell ⟨w.heap.size, B, none⟩ (.int .i64 (rowTo g v k B + xm))).ownsRow w.heap.size 3 1 (.slice (some ⟨w.heap.size, 0, none⟩) N N) N ((vecOf N (rowTo g v (k + 1))).map (Value.int .i64))) := fun W hW => by
          rw [hrow.out]
          exact owns_set hW B _
        generalize rowTo g v k B = y at *
        clear hst hrow
        have ww : IntKind.i64.wrap (y + xm) = y + xm := IntWalk.i64_in _ (by omega)
        go_wp2
        let S : World → Prop := fun w' => w'.cell? ⟨wr.heap.size, 1, none⟩ = some (.int .i64 B) ∧ w'.cell? ⟨wr.heap.size, 2, none⟩ = some (.int .i64 xm) ∧ w'.cell? ⟨w.heap.size, B, none⟩ = some (.int .i64 y)
        (refine wp_region_text 8 [0,1,2,3,4,5,6,7] S (by kernel_rfl) (by kernel_rfl) (by intro _ _ d _ _ h; cases d <;> exact h) ?hS ?_; rotate_left; simp only [List.map_cons, List.map_nil, List.getD_cons_zero, List.getD_cons_succ, List.drop_succ_cons, List.drop_zero])
        case hS => exact ⟨by simp, by simp, (((Below.refl wr.heap.size wr).alloc (Nat.le_refl _) _).cell (p := ⟨w.heap.size, _, none⟩) hlw).trans y1⟩
        (repeat ((refine' wpSeq_take rfl _ (by rfl) ?_ ?_; rotate_left; focus (intro w' hS; (try dsimp only at hS); obtain ⟨s1, s2, s3⟩ := hS; go_simp; (first | done | with_reducible rfl)); (try simp only [Act.put, List.setIfInBounds_toArray, List.set_cons_zero, List.set_cons_succ])); (try simp only [Act.put, List.setIfInBounds_toArray, List.set_cons_zero, List.set_cons_succ])))
        refine wpSeq_nil ?_
        clear S
        go_wp2
        go_roundw
        case rel => exact ⟨k + 1, by omega, by go_num, ((hset.out _ hown).alloc _).drew, ((hB.setCell (Nat.le_refl _) _).alloc (by simp; omega) _).drew⟩
        case measure => simp [intOf]; omega
      have hav1 : ¬ ((A : Int) = (v : Int)) := by omega
      have hav2 : ((A : Int) == (v : Int)) = false := by rw [beq_eq_false_iff_ne]; omega
      by_cases hbv : v = B
      · subst hbv
        have hrow : Hid ((vecOf N (rowTo g v (k + 1))) = (vecOf N (rowTo g v k)).set A (rowTo g v k A + xm)) := by
          show _ = _
          rw [vecOf_set]
          refine vecOf_congr _ _ _ fun u hu => ?_
          rw [hst.out]
          unfold rowE
          dsimp only
          by_cases hu2 : u = A
          · subst hu2
            rw [if_pos rfl]
            simp only [hab1, if_true, if_false]
          · rw [if_neg hu2]
            have : ¬ ((A : Int) = (u : Int)) := by omega
            simp only [hab1, this, if_true, if_false, Int.add_zero]
        have y1 := owns_int hown A (by omega)
        rw [vecOf_get _ _ _ (by omega)] at y1
        have f1 := hown.frozenAt A
        have hy := hbd.out A
        have hset : Hid (∀ W : World, W.ownsRow w.heap.size 3 1 (.slice (some ⟨w.heap.size, 0, none⟩) N N) N ((vecOf N (rowTo g v k)).map (Value.int .i64)) →
            (W.setCell ⟨w.heap.size, A, none⟩ (.int .i64 (rowTo g v k A + xm))).ownsRow w.heap.size 3 1 (.slice (some ⟨w.heap.size, 0, none⟩) N N) N ((vecOf N (rowTo g v (k + 1))).map (Value.int .i64))) := fun W hW => by
          rw [hrow.out]
          exact owns_set hW A _
        generalize rowTo g v k A = y at *
        clear hst hrow
        have ww : IntKind.i64.wrap (y + xm) = y + xm := IntWalk.i64_in _ (by omega)
        go_wp2
        let S : World → Prop := fun w' => w'.cell? ⟨wr.heap.size, 0, none⟩ = some (.int .i64 A) ∧ w'.cell? ⟨wr.heap.size, 2, none⟩ = some (.int .i64 xm) ∧ w'.cell? ⟨w.heap.size, A, none⟩ = some (.int .i64 y)
        (refine wp_region_text 8 [0,1,2,3,4,5,6,7] S (by kernel_rfl) (by kernel_rfl) (by intro _ _ d _ _ h; cases d <;> exact h) ?hS ?_; rotate_left; simp only [List.map_cons, List.map_nil, List.getD_cons_zero, List.getD_cons_succ, List.drop_succ_cons, List.drop_zero])
        case hS => exact ⟨by simp, by simp, (((Below.refl wr.heap.size wr).alloc (Nat.le_refl _) _).cell (p := ⟨w.heap.size, _, none⟩) hlw).trans y1⟩
        (repeat ((refine' wpSeq_take rfl _ (by rfl) ?_ ?_; rotate_left; focus (intro w' hS; (try dsimp only at hS); obtain ⟨s1, s2, s3⟩ := hS; go_simp; (first | done | with_reducible rfl)); (try simp only [Act.put, List.setIfInBounds_toArray, List.set_cons_zero, List.set_cons_succ])); (try simp only [Act.put, List.setIfInBounds_toArray, List.set_cons_zero, List.set_cons_succ])))
        refine wpSeq_nil ?_
        clear S
        go_wp2
        go_roundw
        case rel => exact ⟨k + 1, by omega, by go_num, ((hset.out _ hown).alloc _).drew, ((hB.setCell (Nat.le_refl _) _).alloc (by simp; omega) _).drew⟩
        case measure => simp [intOf]; omega
      have hbv1 : ¬ ((B : Int) = (v : Int)) := by omega
      have hbv2 : ((B : Int) == (v : Int)) = false := by rw [beq_eq_false_iff_ne]; omega
      · skip
        have hrow : Hid ((vecOf N (rowTo g v (k + 1))) = (vecOf N (rowTo g v k))) := by
          show _ = _
          refine vecOf_congr _ _ _ fun u hu => ?_
          rw [hst.out]
          unfold rowE
          dsimp only
          simp only [hab1, hav1, hbv1, if_false, Int.add_zero]
        clear hst
        go_wp2
        go_roundw
        case rel => exact ⟨k + 1, by omega, by go_num, by rw [hrow.out]; exact hown.alloc _, hB.alloc (by omega) _⟩
        case measure => simp [intOf]; omega
    · obtain rfl : k = g.es.length := by omega
      have hrw : ∀ u, u < N → (vecOf N (rowTo g v g.es.length))[u]?.getD 0 = rowsF g v u := fun u hu => by rw [vecOf_get _ _ _ hu]; exact rowTo_end HK.out v u
      have hrl : (vecOf N (rowTo g v g.es.length)).length = N := vecOf_len _ _
      have hcw : ∀ u, u < N → wr.cell? ⟨w.heap.size, u, none⟩ = some (.int .i64 (rowsF g v u)) := fun u hu => by
        rw [owns_int hown u hu, hrw u hu]
      have hlw := (owns_lt hown).2
      have HCW := hid hcw
      have hI0 := H0.out wr w.heap.size hB (Nat.le_refl _) hlw
      clear hcw hrw hrl hown hend hc hE c0 c1
      obtain ⟨WA, hWA⟩ : ∃ W : World, W = wr := ⟨_, rfl⟩
      rw [← hWA] at HCW hlw hI0 hB
      rw [← hWA]
      clear hWA
      go_wp2
      go_loopw [64] (fun i wr => ∃ k : Nat, k ≤ N ∧ i = .int .i64 k ∧ w.heap.size < wr.heap.size ∧ Hid (wr.heap[w.heap.size]? = WA.heap[w.heap.size]?) ∧ Hid (I w.heap.size k wr)) (fun i _ => N - (intOf i).toNat)
      case atStart => exact ⟨0, Nat.zero_le _, rfl, hlw, rfl, hI0⟩
      case round =>
        obtain ⟨k, hkn, rfl, hlw, HE, HI⟩ := hrel
        by_cases hlt : k < N
        · have x1 : wr.cell? ⟨w.heap.size, k, none⟩ = some (.int .i64 (rowsF g v k)) := (World.cell?_of_block HE.out).trans (HCW.out k hlt)
          have hk1 : (k : Int) < (N : Int) := by omega
          have hk0 : (0 : Int) ≤ (k : Int) := by omega
          by_cases hx : 0 < rowsF g v k
          · have hC := hid (HC.out w.heap.size k wr hlt hx (Nat.le_refl _) hlw HI.out)
            generalize rowsF g v k = x at *
            go_wp2
            rw [HF.out, Oper.upon_enter]
            refine hC.out.mono ?_
            rintro e w2 ⟨rfl, hI2, hl2, hh2⟩
            have HE2 := hid (hh2.trans HE.out)
            have HI2 := hid hI2
            clear hI2 hh2
            go_simp
            go_wp2
            go_roundw
            case rel => exact ⟨k + 1, by omega, by go_num, hl2, HE2, HI2⟩
            case measure => simp [intOf]; omega
          · have hI2 := hid (HS.out w.heap.size k wr hlt (by omega) HI.out)
            generalize rowsF g v k = x at *
            go_wp2
            go_roundw
            case rel => exact ⟨k + 1, by omega, by go_num, hlw, HE, hI2⟩
            case measure => simp [intOf]; omega
        · obtain rfl : k = N := by omega
          go_wp2
          go_end0
          exact ⟨rfl, _, HI.out⟩

end Go.Proofs.Ytbjoblkigbphhaa

namespace Go.Proofs.Ytbjoblkigbphhaa
open Go.RowKit

/-- The blocks that stand already, but those with p, are kept. -/
def KeptB (w w' : World) (p : Nat → Prop) : Prop := w.heap.size ≤ w'.heap.size ∧ ∀ k, k < w.heap.size → ¬ p k → w'.heap[k]? = w.heap[k]?
theorem owns_keptB {w w' : World} {p : Nat → Prop} {base : Nat} {e : TypeId} {size : Nat} {v : Value} {n : Nat} {xs : List Value} (h : w.ownsRow base e size v n xs) (hk : KeptB w w' p) (hp : ∀ k, v.ownBlock = some k → ¬ p k) : w'.ownsRow base e size v n xs := by
  refine ⟨h.1, ?_⟩
  rcases h.2 with h0 | ⟨g, cap, cur, rfl, hb, hg, rest⟩
  · exact .inl h0
  · refine .inr ⟨g, cap, cur, rfl, hb, ?_, rest⟩
    rw [hk.2 g (Array.getElem?_eq_some_iff.1 hg).1 (hp g rfl)]; exact hg

theorem fireSt_next (g : G) (v u : Nat) (L : Nat → Int) (i : Nat) : (if i = u then fireSt g v u L u + rowsF g v u else fireSt g v u L i) = fireSt g v (u + 1) L i := by
  unfold fireSt
  by_cases h : i = u
  · subst h; simp
  · rw [if_neg h]
    congr 1
    by_cases h2 : i < u
    · rw [if_pos h2, if_pos (by omega)]
    · rw [if_neg h2, if_neg (by omega)]
theorem fireSt_skip (g : G) (v u : Nat) (L : Nat → Int) (h0 : rowsF g v u = 0) (i : Nat) : fireSt g v u L i = fireSt g v (u + 1) L i := by
  unfold fireSt
  congr 1
  by_cases h : i = u
  · subst h; rw [if_neg (by omega), if_pos (by omega), h0]
  · by_cases h2 : i < u
    · rw [if_pos h2, if_pos (by omega)]
    · rw [if_neg h2, if_neg (by omega)]

end Go.Proofs.Ytbjoblkigbphhaa
