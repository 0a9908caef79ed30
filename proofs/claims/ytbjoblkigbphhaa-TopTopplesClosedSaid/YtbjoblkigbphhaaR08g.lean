/-
  Contracts of the reference for graphs (sandpileref08): Parts, Connected.
-/
import Derived.Test.YtbjoblkigbphhaaR08f
namespace Go.Proofs.Ytbjoblkigbphhaa
open Go.RowKit

set_option maxRecDepth 100000 in
set_option maxHeartbeats 1000000 in
theorem r08_Parts (g : G) (gv : Value) (w : World) (hg : GrR w gv g) (hk : Gok g) :
    Calls Try.prog 63 #[gv] w fun e w' => e = .returned (.int .i64 (parts g)) ∧ Below w.heap.size w w' := by
  have hg' := hg
  obtain ⟨ev, rfl, _⟩ := hg'
  obtain ⟨hn1, hn2⟩ := hk.n
  have hW : Below w.heap.size w (w.alloc (.cells #[.int .i64 g.n, ev] 24)) := by go_grown
  go_enter Try.func63, Try.ntmps63
  go_wp2_with (at_make; refine wpList_mk1 _ Value.bool false rfl _ _ 38 rfl (w.heap.size + 1) 4 1 Try.underBools Try.infoBool rfl g.n rfl rfl (by omega) (by omega) (by omega) (w.heap.size + 1) (by simp) (by omega) ?_; intro w1 hown hB1)
  have hB2 : Below (w.heap.size + 1) (w.alloc (.cells #[.int .i64 g.n, ev] 24)) w1 := by
    have h := hB1; simp only [World.size_alloc] at h; exact h
  go_loopw [3, 5] (fun t i wr => ∃ k : Nat, k ≤ g.n.toNat ∧ i = .int .i64 k ∧ t = .int .i64 (partsTo g k).1 ∧
      wr.ownsRow (w.heap.size + 1) 4 1 (.slice (some ⟨w.heap.size + 1, 0, none⟩) g.n.toNat g.n.toNat) g.n.toNat (((partsTo g k).2).map Value.bool) ∧
      Below (w.heap.size + 1) (w.alloc (.cells #[.int .i64 g.n, ev] 24)) wr)
    (fun _ i _ => g.n.toNat - (intOf i).toNat)
  case atStart => exact ⟨0, Nat.zero_le _, rfl, rfl, hown, hB2⟩
  case round =>
    clear hown hB1 hB2
    obtain ⟨k, hkn, rfl, rfl, hown, hB⟩ := hrel
    obtain ⟨r1, r2⟩ := bcellB hB
    by_cases hlt : k < g.n.toNat
    · have hlt' : (k : Int) < g.n := by omega
      have HS : Hid (partsTo g (k + 1) = if (partsTo g k).2[k]?.getD false then partsTo g k else ((partsTo g k).1 + 1, orTo (reached g k) g.n.toNat (partsTo g k).2)) := rfl
      obtain ⟨hp1, hp2⟩ := partsTo_bd g k
      have hln := hid (partsTo_len g k)
      generalize hP : partsTo g k = P at *
      clear hP
      obtain ⟨pn, ps⟩ := P
      dsimp only at *
      have c1 := owns_bool hown k hlt
      have hs := owns_lt hown
      have hBw : Below w.heap.size w wr := hW.trans (hB.mono (by omega))
      have hgr := hid (hg.below hBw)
      cases hx : ps[k]?.getD false with
      | true =>
        rw [hx] at c1
        go_wp2
        go_roundw
        case rel =>
          refine ⟨k + 1, by omega, by go_num, ?_, ?_, hB⟩
          · rw [HS.out, if_pos hx]
          · rw [HS.out, if_pos hx]; exact hown
        case measure => simp [intOf]; omega
      | false =>
        rw [hx] at c1
        have hbig : ∀ w', Below wr.heap.size wr w' → Below (w.heap.size + 1) (w.alloc (.cells #[.int .i64 g.n, ev] 24)) w' := fun w' h => hB.trans (h.mono (by have := hs.2; omega))
        go_wp2_with (go_at_call 79; refine (r08_Reached g _ _ _ hgr.out hk (by omega) (by omega)).mono ?_; rintro e w2 ⟨rb, rfl, hrow, hB'⟩)
        have hrb := owns_lt hrow
        have hB2 := hbig _ hB'
        have hown2 := owns_below hown hB'
        clear hown c1 r1 r2 hbig hgr
        go_loopw [7] (fun i wr => ∃ u : Nat, u ≤ g.n.toNat ∧ i = .int .i64 u ∧
            wr.ownsRow (w.heap.size + 1) 4 1 (.slice (some ⟨w.heap.size + 1, 0, none⟩) g.n.toNat g.n.toNat) g.n.toNat ((orTo (reached g k) u ps).map Value.bool) ∧
            wr.ownsRow w.heap.size 4 1 (.slice (some ⟨rb, 0, none⟩) g.n.toNat g.n.toNat) g.n.toNat ((reached g k).map Value.bool) ∧
            Below (w.heap.size + 1) (w.alloc (.cells #[.int .i64 g.n, ev] 24)) wr)
          (fun i _ => g.n.toNat - (intOf i).toNat)
        case atStart => exact ⟨0, Nat.zero_le _, rfl, hown2, owns_base hrow (by omega), hB2⟩
        case round =>
          clear hB hB2 hown2 hrow hB' hBw
          obtain ⟨u, hu, rfl, hown, hrow, hB⟩ := hrel
          obtain ⟨r1, r2⟩ := bcellB hB
          by_cases hut : u < g.n.toNat
          · have hut' : (u : Int) < g.n := by omega
            have HQ : Hid (orTo (reached g k) (u + 1) ps = (orTo (reached g k) u ps).set u (((orTo (reached g k) u ps)[u]?.getD false) || ((reached g k)[u]?.getD false))) := rfl
            generalize orTo (reached g k) u ps = so at *
            have c1 := owns_bool hown u hut
            have c2 := owns_bool hrow u hut
            have f1 := hown.frozenAt u
            have hne : rb ≠ w.heap.size + 1 := by omega
            cases hy : so[u]?.getD false with
            | true =>
              rw [hy] at c1
              go_wp2
              go_roundw
              case rel =>
                refine ⟨u + 1, by omega, by go_num, ?_, owns_other hrow hne _ _, hB.setCell (by simp) _⟩
                rw [HQ.out, hy, Bool.true_or]
                exact owns_set hown u true
              case measure => simp [intOf]; omega
            | false =>
              rw [hy] at c1
              generalize hz : (reached g k)[u]?.getD false = z at *
              go_wp2
              go_roundw
              case rel =>
                refine ⟨u + 1, by omega, by go_num, ?_, owns_other hrow hne _ _, hB.setCell (by simp) _⟩
                rw [HQ.out, hy, Bool.false_or]
                exact owns_set hown u z
              case measure => simp [intOf]; omega
          · have hut' : ¬ (u : Int) < g.n := by omega
            obtain rfl : u = g.n.toNat := by omega
            go_wp2
            go_roundw
            case rel =>
              refine ⟨k + 1, by omega, by go_num, ?_, ?_, hB⟩
              · rw [HS.out, if_neg (by simp [hx])]
              · rw [HS.out, if_neg (by simp [hx])]; exact hown
            case measure => simp [intOf]; omega
    · have hlt' : ¬ (k : Int) < g.n := by omega
      obtain rfl : k = g.n.toNat := by omega
      go_wp2
      go_ret
      exact ⟨rfl, hW.trans (hB.mono (by omega))⟩

theorem r08_Connected (g : G) (gv : Value) (w : World) (hg : GrR w gv g) (hk : Gok g) :
    Calls Try.prog 38 #[gv] w fun e w' => e = .returned (.bool (parts g == 1)) ∧ Below w.heap.size w w' := by
  have hg' := hg
  obtain ⟨ev, rfl, _⟩ := hg'
  have hgr := hid (hg.below (w' := w.alloc (.cells #[.int .i64 g.n, ev] 24)) (by go_grown))
  go_enter Try.func38, Try.ntmps38
  go_wp2_with (go_at_call 63; refine (r08_Parts g _ _ hgr.out hk).mono ?_; rintro e w' ⟨rfl, hB⟩)
  go_ret
  exact ⟨rfl, up (by go_grown) hB⟩

end Go.Proofs.Ytbjoblkigbphhaa
