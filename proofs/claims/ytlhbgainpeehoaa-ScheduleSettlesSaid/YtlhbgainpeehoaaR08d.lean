/-
  Contracts of the reference for graphs (sandpileref08): Ends.
-/
import Derived.Test.YtlhbgainpeehoaaR08c
namespace Go.Proofs.Ytlhbgainpeehoaa
open Go.RowKit

theorem Try.underEnds : Try.prog.underlying 159 = some (.slice 162) := by kernel_rfl
theorem Try.infoPair : (Try.prog.info? 162).map (fun i => (i.zero, i.size, i.bytes)) = some (some (.agg #[.int .i64 0, .int .i64 0]), 2, 16) := by kernel_rfl

set_option maxHeartbeats 1000000 in
theorem r08_Ends (g : G) (gv : Value) (w : World) (hg : GrR w gv g) (hk : Gok g) :
    Calls Try.prog 119 #[gv] w fun e w' => ∃ v, e = .returned v ∧ w'.ownsRow w.heap.size 162 2 v (endsOf g.es).length (pairCells (endsOf g.es)) ∧ Below w.heap.size w w' := by
  have hg' := hg
  obtain ⟨ev, rfl, a, cap, rfl, hcap, hcm, hlen, hc⟩ := hg'
  have hl := hk.len
  obtain ⟨i0, hi, hz0, hz1, hz2⟩ := info_parts Try.infoPair
  go_enter Try.func119, Try.ntmps119
  go_wp2
  go_loopw [3, 4] (fun t i wr => ∃ k : Nat, k ≤ g.es.length ∧ i = .int .i64 k ∧ wr.ownsRow (w.heap.size + 1) 162 2 t (endsOf (g.es.take k)).length (pairCells (endsOf (g.es.take k))) ∧
      Below (w.alloc (.cells #[.int .i64 g.n, .slice a g.es.length cap] 24)).heap.size (w.alloc (.cells #[.int .i64 g.n, .slice a g.es.length cap] 24)) wr)
    (fun _ i _ => g.es.length - (intOf i).toNat)
  case atStart => exact ⟨0, Nat.zero_le _, rfl, World.ownsRow_nil _ _ _ _, Below.refl _ _⟩
  case round =>
    obtain ⟨k, hkn, rfl, hown, hB⟩ := hrel
    obtain ⟨r1, r2⟩ := bcell hB
    have hBw : Below w.heap.size w wr := up (by go_grown) hB
    by_cases hlt : k < g.es.length
    · have HT := hid (take_step g.es k hlt)
      have HM := hid (hk.ends k hlt)
      generalize hx : g.es[k]?.getD default = x at HT HM
      have HX := hid hx
      clear hx
      obtain ⟨_, _, _, hm1, hm2⟩ := HM.out
      go_wp2
      obtain ⟨wo, hwo⟩ : ∃ wo : World, wo = wr := ⟨_, rfl⟩
      rw [← hwo] at hB r1 r2 hBw hown ⊢
      clear hwo wr
      go_loopw [3, 5] (fun t i wr => ∃ j : Nat, j ≤ x.m.toNat ∧ i = .int .i64 j ∧
          wr.ownsRow (w.heap.size + 1) 162 2 t (endsOf (g.es.take k) ++ List.replicate j (x.a, x.b)).length (pairCells (endsOf (g.es.take k) ++ List.replicate j (x.a, x.b))) ∧
          Below (w.alloc (.cells #[.int .i64 g.n, .slice a g.es.length cap] 24)).heap.size (w.alloc (.cells #[.int .i64 g.n, .slice a g.es.length cap] 24)) wr)
        (fun _ i _ => x.m.toNat - (intOf i).toNat)
      case atStart => exact ⟨0, Nat.zero_le _, rfl, by simpa using hown, hB⟩
      case round =>
        clear hown r1 r2 hB hBw
        obtain ⟨j, hj, rfl, hown, hB⟩ := hrel
        obtain ⟨r1, r2⟩ := bcell hB
        have hBw : Below w.heap.size w wr := up (by go_grown) hB
        have hs : w.heap.size + 1 ≤ wr.heap.size := by have := hB.size; simpa using this
        obtain ⟨b, off, rfl, hb, hcc⟩ := (hc.below hBw).edge (by omega)
        obtain ⟨c1, c2, c3⟩ := hcc k hlt
        clear hcc
        rw [HX.out] at c1 c2 c3
        have hb' : ∀ k, b < wr.heap.size + k := fun k => by omega
        by_cases hjm : j < x.m.toNat
        · have hjm' : (j : Int) < x.m := by omega
          go_wp2
          have hl1 := endsOf_len (g.es.take k) 50 (fun y hy => by have := hk.mem (List.mem_of_mem_take hy); omega)
          have hl2 : (endsOf (g.es.take k) ++ List.replicate j (x.a, x.b)).length ≤ 100000 := by
            have : (g.es.take k).length ≤ k := List.length_take_le _ _
            simp only [List.length_append, List.length_replicate]; omega
          go_region_law (refine step_append_own rfl (.tmp 23) (.tmp 37) 159 rfl (w.heap.size + 1) 162 i0 _ 2 16 Try.underEnds hi hz0 hz1 hz2 rfl (by decide) _ _ _ rfl (ownsRow_ad hown _) ⟨wr.heap.size, 0, none⟩ 1 1 [.int .i64 x.a, .int .i64 x.b] rfl rfl (fun j u h => news_ad wr [.int .i64 x.a, .int .i64 x.b] _ j u h) (by simp [Value.oneCell']) (by unfold maxLen; omega) (by omega) (by simp; omega) ?_; intro v' w1 hown' hgrow _)
          all_goals
            have hB1 := below_append hB hown (by simp) (by simp; omega) (grown_ad wr _ none) hgrow
            clear hown hgrow
            go_wp2
            go_roundw
            case rel =>
              refine ⟨j + 1, by omega, by go_num, ?_, hB1⟩
              have e : endsOf (g.es.take k) ++ List.replicate (j + 1) (x.a, x.b) = (endsOf (g.es.take k) ++ List.replicate j (x.a, x.b)) ++ [(x.a, x.b)] := by
                rw [List.replicate_succ', List.append_assoc]
              rw [e, pairCells_append, List.length_append]
              exact hown'
            case measure => simp [intOf]; omega
        · have hjm' : ¬ (j : Int) < x.m := by omega
          go_wp2
          go_roundw
          case rel =>
            obtain rfl : j = x.m.toNat := by omega
            refine ⟨k + 1, by omega, by go_num, ?_, hB⟩
            rw [HT.out, endsOf_append]
            simpa [endsOf] using hown
          case measure => simp [intOf]; omega
    · obtain rfl : k = g.es.length := by omega
      go_wp2
      go_ret
      rw [List.take_length] at hown
      exact ⟨_, rfl, owns_base hown (by omega), hBw⟩

end Go.Proofs.Ytlhbgainpeehoaa
