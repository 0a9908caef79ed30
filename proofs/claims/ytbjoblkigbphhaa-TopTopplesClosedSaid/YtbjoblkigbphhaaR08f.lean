/-
  Contracts of the reference for graphs (sandpileref08): Reached.
-/
import Derived.Test.YtbjoblkigbphhaaR08e
import Derived.Test.YtbjoblkigbphhaaSpec2
import Derived.Test.YtbjoblkigbphhaaLib
namespace Go.Proofs.Ytbjoblkigbphhaa
open Go.RowKit

theorem Try.underBools : Try.prog.underlying 38 = some (.slice 4) := by kernel_rfl
theorem Try.infoBool : (Try.prog.info? 4).map (fun i => (i.zero, i.size, i.bytes)) = some (some (.bool false), 1, 1) := by kernel_rfl

set_option maxRecDepth 100000 in
set_option maxHeartbeats 1000000 in
theorem r08_Reached (g : G) (gv : Value) (v : Int) (w : World) (hg : GrR w gv g) (hk : Gok g) (hv0 : 0 ≤ v) (hvn : v < g.n) :
    Calls Try.prog 79 #[gv, .int .i64 v] w fun e w' => ∃ b, e = .returned (.slice (some ⟨b, 0, none⟩) g.n.toNat g.n.toNat) ∧
      w'.ownsRow w.heap.size 4 1 (.slice (some ⟨b, 0, none⟩) g.n.toNat g.n.toNat) g.n.toNat ((reached g v).map Value.bool) ∧ Below w.heap.size w w' := by
  have hg' := hg
  obtain ⟨ev, rfl, _⟩ := hg'
  obtain ⟨hn1, hn2⟩ := hk.n
  have hvt : v.toNat < g.n.toNat := by omega
  go_enter Try.func79, Try.ntmps79
  go_wp2_with (at_make; refine wpList_mk1 _ Value.bool false rfl _ _ 38 rfl (w.heap.size + 1) 4 1 Try.underBools Try.infoBool rfl g.n rfl rfl (by omega) (by omega) (by omega) (w.heap.size + 1) (by simp) (by omega) ?_; intro w1 hown hB1; obtain ⟨r1, r2⟩ := bcell hB1; have c1 := owns_bool hown v.toNat hvt; have f1 := hown.frozenAt v.toNat)
  have hown2 := owns_set (f := Value.bool) hown v.toNat true
  have hB2 : Below (w.heap.size + 1) (w.alloc (.cells #[.int .i64 g.n, ev] 24)) (w1.setCell ⟨w.heap.size + 1, v.toNat, none⟩ (.bool true)) := by
    have h := hB1; simp only [World.size_alloc] at h; exact h.setCell (by simp) _
  clear hown hB1 r1 r2 c1 f1
  generalize w1.setCell ⟨w.heap.size + 1, v.toNat, none⟩ (.bool true) = w2 at *
  go_loopw [6] (fun i wr => ∃ r : Nat, r ≤ g.n.toNat ∧ i = .int .i64 r ∧
      wr.ownsRow (w.heap.size + 1) 4 1 (.slice (some ⟨w.heap.size + 1, 0, none⟩) g.n.toNat g.n.toNat) g.n.toNat ((rR g r ((List.replicate g.n.toNat false).set v.toNat true)).map Value.bool) ∧
      Below (w.heap.size + 1) (w.alloc (.cells #[.int .i64 g.n, ev] 24)) wr)
    (fun i _ => g.n.toNat - (intOf i).toNat)
  case atStart => exact ⟨0, Nat.zero_le _, rfl, hown2, hB2⟩
  case round =>
    clear hown2 hB2
    obtain ⟨r, hr, rfl, hown, hB⟩ := hrel
    obtain ⟨r1, r2⟩ := bcellB hB
    by_cases hlt : r < g.n.toNat
    · have hlt' : (r : Int) < g.n := by omega
      have HS : Hid (rR g (r + 1) ((List.replicate g.n.toNat false).set v.toNat true) = rA g g.n.toNat (rR g r ((List.replicate g.n.toNat false).set v.toNat true))) := rfl
      generalize rR g r ((List.replicate g.n.toNat false).set v.toNat true) = L1 at *
      go_wp2
      obtain ⟨wo, hwo⟩ : ∃ wo : World, wo = wr := ⟨_, rfl⟩
      rw [← hwo] at hB r1 r2 hown ⊢
      clear hwo wr
      go_loopw [7] (fun i wr => ∃ p : Nat, p ≤ g.n.toNat ∧ i = .int .i64 p ∧
      wr.ownsRow (w.heap.size + 1) 4 1 (.slice (some ⟨w.heap.size + 1, 0, none⟩) g.n.toNat g.n.toNat) g.n.toNat ((rA g p L1).map Value.bool) ∧
      Below (w.heap.size + 1) (w.alloc (.cells #[.int .i64 g.n, ev] 24)) wr)
    (fun i _ => g.n.toNat - (intOf i).toNat)
      case atStart => exact ⟨0, Nat.zero_le _, rfl, hown, hB⟩
      case round =>
        clear hown hB r1 r2
        obtain ⟨p, hp, rfl, hown, hB⟩ := hrel
        obtain ⟨r1, r2⟩ := bcellB hB
        by_cases hpt : p < g.n.toNat
        · have hpt' : (p : Int) < g.n := by omega
          have HP : Hid (rA g (p + 1) L1 = rB g p g.n.toNat (rA g p L1)) := rfl
          generalize rA g p L1 = L2 at *
          go_wp2
          obtain ⟨wo2, hwo⟩ : ∃ wo2 : World, wo2 = wr := ⟨_, rfl⟩
          rw [← hwo] at hB r1 r2 hown ⊢
          clear hwo wr
          go_loopw [8] (fun i wr => ∃ q : Nat, q ≤ g.n.toNat ∧ i = .int .i64 q ∧
      wr.ownsRow (w.heap.size + 1) 4 1 (.slice (some ⟨w.heap.size + 1, 0, none⟩) g.n.toNat g.n.toNat) g.n.toNat ((rB g p q L2).map Value.bool) ∧
      Below (w.heap.size + 1) (w.alloc (.cells #[.int .i64 g.n, ev] 24)) wr)
    (fun i _ => g.n.toNat - (intOf i).toNat)
          case atStart => exact ⟨0, Nat.zero_le _, rfl, hown, hB⟩
          case round =>
            clear hown hB r1 r2
            obtain ⟨q, hq, rfl, hown, hB⟩ := hrel
            obtain ⟨r1, r2⟩ := bcellB hB
            by_cases hqt : q < g.n.toNat
            · have hqt' : (q : Int) < g.n := by omega
              have HQ : Hid (rB g p (q + 1) L2 = rStp g p q (rB g p q L2)) := rfl
              generalize rB g p q L2 = L4 at *
              have hBw : Below w.heap.size w wr := by
                have h : Below w.heap.size w (w.alloc (.cells #[.int .i64 g.n, ev] 24)) := by go_grown
                exact h.trans (hB.mono (by omega))
              have hgr := hid (hg.below hBw)
              have c1 := owns_bool hown p hpt
              have hs := hown.lt _ rfl
              cases hx : L4[p]?.getD false with
              | false =>
                rw [hx] at c1
                go_wp2
                go_roundw
                case rel => exact ⟨q + 1, by omega, by go_num, by rw [HQ.out]; simpa [rStp, hx] using hown, hB⟩
                case measure => simp [intOf]; omega
              | true =>
                rw [hx] at c1
                have hbig : ∀ w', Below wr.heap.size wr w' → Below (w.heap.size + 1) (w.alloc (.cells #[.int .i64 g.n, ev] 24)) w' := fun w' h => hB.trans (h.mono (by have := hs.2; omega))
                by_cases hb : 0 < btw g p q
                · go_wp2_with (go_at_call 68; refine (r08_Between g _ _ _ _ hgr.out).mono ?_; rintro e w' ⟨rfl, hB'⟩; have hown' := owns_below hown hB'; have c2 := owns_bool hown' q hqt; have f2 := hown'.frozenAt q)
                  go_roundw
                  case rel =>
                    refine ⟨q + 1, by omega, by go_num, ?_, (hbig _ hB').setCell (by simp) _⟩
                    rw [HQ.out, show rStp g p q L4 = L4.set q true by simp [rStp, hx, hb]]
                    exact owns_set hown' q true
                  case measure => simp [intOf]; omega
                · go_wp2_with (go_at_call 68; refine (r08_Between g _ _ _ _ hgr.out).mono ?_; rintro e w' ⟨rfl, hB'⟩)
                  go_roundw
                  case rel =>
                    refine ⟨q + 1, by omega, by go_num, ?_, hbig _ hB'⟩
                    rw [HQ.out, show rStp g p q L4 = L4 by simp [rStp, hx]; omega]
                    exact owns_below hown hB'
                  case measure => simp [intOf]; omega
            · have hqt' : ¬ (q : Int) < g.n := by omega
              obtain rfl : q = g.n.toNat := by omega
              go_wp2
              go_roundw
              case rel => exact ⟨p + 1, by omega, by go_num, by rw [HP.out]; exact hown, hB⟩
              case measure => simp [intOf]; omega
        · have hpt' : ¬ (p : Int) < g.n := by omega
          obtain rfl : p = g.n.toNat := by omega
          go_wp2
          go_roundw
          case rel => exact ⟨r + 1, by omega, by go_num, by rw [HS.out]; exact hown, hB⟩
          case measure => simp [intOf]; omega
    · have hlt' : ¬ (r : Int) < g.n := by omega
      obtain rfl : r = g.n.toNat := by omega
      go_wp2
      go_ret
      refine ⟨_, rfl, owns_base hown (by omega), ?_⟩
      have h : Below w.heap.size w (w.alloc (.cells #[.int .i64 g.n, ev] 24)) := by go_grown
      exact h.trans (hB.mono (by omega))

end Go.Proofs.Ytbjoblkigbphhaa
