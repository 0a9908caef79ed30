/-
  Contracts of the reference for graphs (sandpileref08).
  Contracts of the reference for graphs (sandpileref08), second part.
  Contracts of the reference for graphs (sandpileref08), third part.
  Contracts of the reference for graphs (sandpileref08): Ends.
-/
import Derived.Test.YtbjoblkigbphhaaProg
import Derived.Test.YtbjoblkigbphhaaSpec
namespace Go.Proofs.Ytbjoblkigbphhaa
open Go.RowKit

theorem r08_Vertex (n v : Int) (ev : Value) (w : World) :
    Calls Try.prog 17 #[.agg #[.int .i64 n, ev], .int .i64 v] w fun e w' => e = .returned (.bool (vtx n v)) ∧ w.alloc (.cells #[.int .i64 n, ev] 24) = w' := by
  go_enter Try.func17, Try.ntmps17
  go_wp2
  · go_ret
    have h : 0 ≤ v := by assumption
    exact ⟨by simp [vtx, h], rfl⟩
  · go_ret
    have h : v < 0 := by assumption
    exact ⟨by simp [vtx]; omega, rfl⟩

set_option maxHeartbeats 1000000 in
theorem r08_edge (g : G) (gv : Value) (i : Int) (w : World) (hg : GrR w gv g) (h0 : 0 ≤ i) (hi : i < g.es.length) :
    Calls Try.prog 62 #[gv, .int .i64 i] w fun e w' => e = .returned (.int .i64 (edgeErr g i.toNat)) ∧ Below w.heap.size w w' := by
  obtain ⟨ev, rfl, a, cap, rfl, hcap, hcm, hlen, hc⟩ := hg
  obtain ⟨b, off, rfl, hb, hc⟩ := hc.edge (by omega)
  obtain ⟨k, rfl⟩ := Int.eq_ofNat_of_zero_le h0
  obtain ⟨c1, c2, c3⟩ := hc k (by omega)
  have d := hc (k - 1) (by omega)
  obtain ⟨d1, d2, d3⟩ := d
  rw [Int.toNat_natCast]
  generalize hz : edgeErr g k = z
  unfold edgeErr at hz
  generalize hx : g.es[k]?.getD default = x at *
  generalize hy : g.es[k - 1]?.getD default = y at *
  have HZ := hid hz
  clear hx hy hc hz
  have hb' : ∀ k, b < w.heap.size + k := fun k => by omega
  go_enter Try.func62, Try.ntmps62
  go_wp2_with (go_at_call 17; refine (r08_Vertex _ _ _ _).mono ?_; rintro e w' ⟨rfl, rfl⟩)
  all_goals (go_ret; refine ⟨ret_int ?_, by go_grown⟩; have hz := HZ.out; clear HZ; first | grind | skip)

set_option maxHeartbeats 1000000 in
theorem r08_Check (g : G) (gv : Value) (w : World) (hg : GrR w gv g) :
    Calls Try.prog 37 #[gv] w fun e w' => e = .returned (.int .i64 (checkErr g)) ∧ Below w.heap.size w w' := by
  have hg' := hg
  obtain ⟨ev, rfl, a, cap, rfl, hcap, hcm, hlen, hc⟩ := hg'
  generalize hz : checkErr g = z
  unfold checkErr at hz
  by_cases hn : g.n < 1 ∨ 12 < g.n
  · rw [if_pos hn] at hz
    subst hz
    rcases hn with hn | hn
    all_goals
      go_enter Try.func37, Try.ntmps37
      go_wp2
      all_goals (go_ret; exact ⟨rfl, by go_grown⟩)
  rw [if_neg hn] at hz
  have h1 : 1 ≤ g.n := by omega
  have h2 : g.n ≤ 12 := by omega
  have HZ := hid hz
  clear hz hn
  go_enter Try.func37, Try.ntmps37
  go_wp2
  go_loopw [3] (fun i wr => ∃ k : Nat, k ≤ g.es.length ∧ i = .int .i64 k ∧ Hid (firstNZ (edgeErr g) k (g.es.length - k) = z) ∧
      Below (w.alloc (.cells #[.int .i64 g.n, .slice a g.es.length cap] 24)).heap.size (w.alloc (.cells #[.int .i64 g.n, .slice a g.es.length cap] 24)) wr)
    (fun i _ => g.es.length - (intOf i).toNat)
  case atStart => exact ⟨0, Nat.zero_le _, rfl, HZ, Below.refl _ _⟩
  case round =>
    obtain ⟨k, hk, rfl, HZ, hB⟩ := hrel
    obtain ⟨r1, r2⟩ := bcell hB
    have hBw : Below w.heap.size w wr := up (by go_grown) hB
    have hgr := hid (hg.below hBw)
    by_cases hlt : k < g.es.length
    · have HS := hid (firstNZ_step (edgeErr g) k g.es.length hlt)
      by_cases h0 : edgeErr g k = 0
      · go_wp2_with (go_at_call 62; refine (r08_edge g _ _ _ hgr.out (by omega) (by omega)).mono ?_; rintro e w' ⟨rfl, hB'⟩)
        go_roundw
        case rel => exact ⟨k + 1, by omega, by go_num, hid (by rw [← HZ.out, HS.out, if_neg (by simpa using h0)]), up hB hB'⟩
        case measure => simp [intOf]; omega
      · go_wp2_with (go_at_call 62; refine (r08_edge g _ _ _ hgr.out (by omega) (by omega)).mono ?_; rintro e w' ⟨rfl, hB'⟩)
        go_ret
        refine ⟨ret_int ?_, up hBw hB'⟩
        rw [← HZ.out, HS.out, if_pos (by simpa using h0)]
    · go_wp2
      go_ret
      refine ⟨ret_int ?_, hBw⟩
      rw [← HZ.out, firstNZ_end _ _ _ (by omega)]

end Go.Proofs.Ytbjoblkigbphhaa

namespace Go.Proofs.Ytbjoblkigbphhaa
open Go.RowKit

set_option maxHeartbeats 1000000 in
theorem r08_Between (g : G) (gv : Value) (p q : Int) (w : World) (hg : GrR w gv g) :
    Calls Try.prog 68 #[gv, .int .i64 p, .int .i64 q] w fun e w' => e = .returned (.int .i64 (btw g p q)) ∧ Below w.heap.size w w' := by
  obtain ⟨ev, rfl, a, cap, rfl, hcap, hcm, hlen, hc⟩ := hg
  generalize hz : btw g p q = z
  unfold btw at hz
  have HZ := hid hz
  clear hz
  go_enter Try.func68, Try.ntmps68
  go_wp2
  go_loopw [7] (fun i wr => ∃ k : Nat, k ≤ g.es.length ∧ i = .int .i64 k ∧ Hid (bet (min p q) (max p q) (g.es.drop k) = z) ∧
      Below (w.alloc (.cells #[.int .i64 g.n, .slice a g.es.length cap] 24)).heap.size (w.alloc (.cells #[.int .i64 g.n, .slice a g.es.length cap] 24)) wr)
    (fun i _ => g.es.length - (intOf i).toNat)
  case atStart => exact ⟨0, Nat.zero_le _, rfl, HZ, Below.refl _ _⟩
  case round =>
    obtain ⟨k, hk, rfl, HZ, hB⟩ := hrel
    obtain ⟨r1, r2⟩ := bcell hB
    have hBw : Below w.heap.size w wr := up (by go_grown) hB
    by_cases hlt : k < g.es.length
    · have HS := hid (drop_step g.es k hlt)
      obtain ⟨b, off, rfl, hb, hc⟩ := (hc.below hBw).edge (by omega)
      obtain ⟨c1, c2, c3⟩ := hc k hlt
      clear hc
      have hs : w.heap.size + 1 ≤ wr.heap.size := by have := hB.size; simpa using this
      have hb' : ∀ k, b < wr.heap.size + k := fun k => by omega
      generalize g.es[k]?.getD default = x at *
      by_cases hpq : q < p
      all_goals
        go_wp2
        all_goals first
          | (go_ret
             refine ⟨ret_int ?_, by go_grown⟩
             have h1 := HZ.out; rw [HS.out] at h1; simp only [bet] at h1
             grind)
          | (go_roundw
             case rel =>
               refine ⟨k + 1, by omega, by go_num, hid ?_, by go_grown⟩
               have h1 := HZ.out; rw [HS.out] at h1; simp only [bet] at h1
               grind
             case measure => simp [intOf]; omega)
    · go_wp2
      go_ret
      refine ⟨ret_int ?_, hBw⟩
      rw [← HZ.out, List.drop_eq_nil_of_le (by omega)]; rfl

end Go.Proofs.Ytbjoblkigbphhaa

namespace Go.Proofs.Ytbjoblkigbphhaa
open Go.RowKit

set_option maxHeartbeats 1000000 in
theorem r08_Valence (g : G) (gv : Value) (v : Int) (w : World) (hg : GrR w gv g) (hk : Gok g) :
    Calls Try.prog 49 #[gv, .int .i64 v] w fun e w' => e = .returned (.int .i64 (valence g v)) ∧ Below w.heap.size w w' := by
  have hg' := hg
  obtain ⟨ev, rfl, _⟩ := hg'
  have hn := hk.n
  go_enter Try.func49, Try.ntmps49
  go_wp2
  go_loopw [5, 6] (fun t i wr => ∃ k : Nat, k ≤ g.n.toNat ∧ i = .int .i64 k ∧ t = .int .i64 (sumTo (valTerm g v) k) ∧
      Below (w.alloc (.cells #[.int .i64 g.n, ev] 24)).heap.size (w.alloc (.cells #[.int .i64 g.n, ev] 24)) wr)
    (fun _ i _ => g.n.toNat - (intOf i).toNat)
  case atStart => exact ⟨0, Nat.zero_le _, rfl, rfl, Below.refl _ _⟩
  case round =>
    obtain ⟨k, hkn, rfl, rfl, hB⟩ := hrel
    obtain ⟨r1, r2⟩ := bcell hB
    have hBw : Below w.heap.size w wr := up (by go_grown) hB
    have hgr := hid (hg.below hBw)
    have hbd := hk.valence_bd v k hkn
    have hbt := hk.btw_bd k v
    by_cases hlt : k < g.n.toNat
    · have hlt' : (k : Int) < g.n := by omega
      by_cases hv : (k : Int) = v
      · have hT : Hid (sumTo (valTerm g v) (k + 1) = sumTo (valTerm g v) k) := by show _ = _; simp [sumTo, valTerm, hv]
        have HV := hid hv
        have hv2 : ((k : Int) != v) = false := by simp [hv]
        clear hv
        go_wp2
        go_roundw
        case rel => exact ⟨k + 1, by omega, by go_num, by rw [hT.out], hB⟩
        case measure => simp [intOf]; omega
      · have hT : Hid (sumTo (valTerm g v) (k + 1) = sumTo (valTerm g v) k + btw g k v) := by show _ = _; simp [sumTo, valTerm, hv]
        go_wp2_with (go_at_call 68; refine (r08_Between g _ _ _ _ hgr.out).mono ?_; rintro e w' ⟨rfl, hB'⟩)
        go_roundw
        case rel => exact ⟨k + 1, by omega, by go_num, by rw [hT.out], up hB hB'⟩
        case measure => simp [intOf]; omega
    · have hlt' : ¬ (k : Int) < g.n := by omega
      obtain rfl : k = g.n.toNat := by omega
      go_wp2
      go_ret
      exact ⟨rfl, hBw⟩

end Go.Proofs.Ytbjoblkigbphhaa

namespace Go.Proofs.Ytbjoblkigbphhaa
open Go.RowKit

theorem Try.underEnds : Try.prog.underlying 128 = some (.slice 117) := by kernel_rfl
theorem Try.infoPair : (Try.prog.info? 117).map (fun i => (i.zero, i.size, i.bytes)) = some (some (.agg #[.int .i64 0, .int .i64 0]), 2, 16) := by kernel_rfl

set_option maxHeartbeats 1000000 in
theorem r08_Ends (g : G) (gv : Value) (w : World) (hg : GrR w gv g) (hk : Gok g) :
    Calls Try.prog 85 #[gv] w fun e w' => ∃ v, e = .returned v ∧ w'.ownsRow w.heap.size 117 2 v (endsOf g.es).length (pairCells (endsOf g.es)) ∧ Below w.heap.size w w' := by
  have hg' := hg
  obtain ⟨ev, rfl, a, cap, rfl, hcap, hcm, hlen, hc⟩ := hg'
  have hl := hk.len
  obtain ⟨i0, hi, hz0, hz1, hz2⟩ := info_parts Try.infoPair
  go_enter Try.func85, Try.ntmps85
  go_wp2
  go_loopw [3, 4] (fun t i wr => ∃ k : Nat, k ≤ g.es.length ∧ i = .int .i64 k ∧ wr.ownsRow (w.heap.size + 1) 117 2 t (endsOf (g.es.take k)).length (pairCells (endsOf (g.es.take k))) ∧
      Below (w.alloc (.cells #[.int .i64 g.n, .slice a g.es.length cap] 24)).heap.size (w.alloc (.cells #[.int .i64 g.n, .slice a g.es.length cap] 24)) wr)
    (fun _ i _ => g.es.length - (intOf i).toNat)
  case atStart => exact ⟨0, Nat.zero_le _, rfl, World.ownsRow_nil _ _ _ _, Below.refl _ _⟩
  case round =>
    obtain ⟨k, hkn, rfl, hown, hB⟩ := hrel
    obtain ⟨r1, r2⟩ := bcell hB
    have hBw : Below w.heap.size w wr := up (by go_grown) hB
    by_cases hlt : k < g.es.length
    · have HT := hid (take_step g.es k hlt)
      have HM := hid (hk.ends k hlt)
      generalize hx : g.es[k]?.getD default = x at HT HM
      have HX := hid hx
      clear hx
      obtain ⟨_, _, _, hm1, hm2⟩ := HM.out
      go_wp2
      obtain ⟨wo, hwo⟩ : ∃ wo : World, wo = wr := ⟨_, rfl⟩
      rw [← hwo] at hB r1 r2 hBw hown ⊢
      clear hwo wr
      go_loopw [3, 5] (fun t i wr => ∃ j : Nat, j ≤ x.m.toNat ∧ i = .int .i64 j ∧
          wr.ownsRow (w.heap.size + 1) 117 2 t (endsOf (g.es.take k) ++ List.replicate j (x.a, x.b)).length (pairCells (endsOf (g.es.take k) ++ List.replicate j (x.a, x.b))) ∧
          Below (w.alloc (.cells #[.int .i64 g.n, .slice a g.es.length cap] 24)).heap.size (w.alloc (.cells #[.int .i64 g.n, .slice a g.es.length cap] 24)) wr)
        (fun _ i _ => x.m.toNat - (intOf i).toNat)
      case atStart => exact ⟨0, Nat.zero_le _, rfl, by simpa using hown, hB⟩
      case round =>
        clear hown r1 r2 hB hBw
        obtain ⟨j, hj, rfl, hown, hB⟩ := hrel
        obtain ⟨r1, r2⟩ := bcell hB
        have hBw : Below w.heap.size w wr := up (by go_grown) hB
        have hs : w.heap.size + 1 ≤ wr.heap.size := by have := hB.size; simpa using this
        obtain ⟨b, off, rfl, hb, hcc⟩ := (hc.below hBw).edge (by omega)
        obtain ⟨c1, c2, c3⟩ := hcc k hlt
        clear hcc
        rw [HX.out] at c1 c2 c3
        have hb' : ∀ k, b < wr.heap.size + k := fun k => by omega
        by_cases hjm : j < x.m.toNat
        · have hjm' : (j : Int) < x.m := by omega
          go_wp2
          have hl1 := endsOf_len (g.es.take k) 50 (fun y hy => by have := hk.mem (List.mem_of_mem_take hy); omega)
          have hl2 : (endsOf (g.es.take k) ++ List.replicate j (x.a, x.b)).length ≤ 100000 := by
            have : (g.es.take k).length ≤ k := List.length_take_le _ _
            simp only [List.length_append, List.length_replicate]; omega
          go_region_law (refine step_append_own rfl (.tmp 23) (.tmp 37) 128 rfl (w.heap.size + 1) 117 i0 _ 2 16 Try.underEnds hi hz0 hz1 hz2 rfl (by decide) _ _ _ rfl (ownsRow_ad hown _) ⟨wr.heap.size, 0, none⟩ 1 1 [.int .i64 x.a, .int .i64 x.b] rfl rfl (fun j u h => news_ad wr [.int .i64 x.a, .int .i64 x.b] _ j u h) (by simp [Value.oneCell']) (by unfold maxLen; omega) (by omega) (by simp; omega) ?_; intro v' w1 hown' hgrow _)
          all_goals
            have hB1 := below_append hB hown (by simp) (by simp; omega) (grown_ad wr _ none) hgrow
            clear hown hgrow
            go_wp2
            go_roundw
            case rel =>
              refine ⟨j + 1, by omega, by go_num, ?_, hB1⟩
              have e : endsOf (g.es.take k) ++ List.replicate (j + 1) (x.a, x.b) = (endsOf (g.es.take k) ++ List.replicate j (x.a, x.b)) ++ [(x.a, x.b)] := by
                rw [List.replicate_succ', List.append_assoc]
              rw [e, pairCells_append, List.length_append]
              exact hown'
            case measure => simp [intOf]; omega
        · have hjm' : ¬ (j : Int) < x.m := by omega
          go_wp2
          go_roundw
          case rel =>
            obtain rfl : j = x.m.toNat := by omega
            refine ⟨k + 1, by omega, by go_num, ?_, hB⟩
            rw [HT.out, endsOf_append]
            simpa [endsOf] using hown
          case measure => simp [intOf]; omega
    · obtain rfl : k = g.es.length := by omega
      go_wp2
      go_ret
      rw [List.take_length] at hown
      exact ⟨_, rfl, owns_base hown (by omega), hBw⟩

end Go.Proofs.Ytbjoblkigbphhaa
