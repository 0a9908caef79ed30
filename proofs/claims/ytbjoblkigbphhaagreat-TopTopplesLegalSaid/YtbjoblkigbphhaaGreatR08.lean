/-
  Contracts of the reference for graphs (sandpileref08).
  Contracts of the reference for graphs (sandpileref08), second part.
  Contracts of the reference for graphs (sandpileref08), third part.
  Contracts of the reference for graphs (sandpileref08): Ends. Contracts of the reference for graphs (sandpileref08): Size, small, Few; of the references for divisors and firing: Few. Contracts of the reference for graphs (sandpileref08): Reached. Contracts of the reference for graphs (sandpileref08): Parts, Connected.
-/
import Derived.Test.YtbjoblkigbphhaaGreatProg
import Derived.Test.YtbjoblkigbphhaaGreatSpec
import Derived.Test.YtbjoblkigbphhaaGreatSpec2
import Derived.Test.YtbjoblkigbphhaaGreatLib
namespace Go.Proofs.YtbjoblkigbphhaaGreat
open Go.RowKit

theorem r08_Vertex (n v : Int) (ev : Value) (w : World) :
    Calls Tryz.prog 74 #[.agg #[.int .i64 n, ev], .int .i64 v] w fun e w' => e = .returned (.bool (vtx n v)) ∧ w.alloc (.cells #[.int .i64 n, ev] 24) = w' := by
  go_enter Tryz.func74, Tryz.ntmps74
  go_wp2
  · go_ret
    have h : 0 ≤ v := by assumption
    exact ⟨by simp [vtx, h], rfl⟩
  · go_ret
    have h : v < 0 := by assumption
    exact ⟨by simp [vtx]; omega, rfl⟩

set_option maxHeartbeats 1000000 in
theorem r08_edge (g : G) (gv : Value) (i : Int) (w : World) (hg : GrR w gv g) (h0 : 0 ≤ i) (hi : i < g.es.length) :
    Calls Tryz.prog 49 #[gv, .int .i64 i] w fun e w' => e = .returned (.int .i64 (edgeErr g i.toNat)) ∧ Below w.heap.size w w' := by
  obtain ⟨ev, rfl, a, cap, rfl, hcap, hcm, hlen, hc⟩ := hg
  obtain ⟨b, off, rfl, hb, hc⟩ := hc.edge (by omega)
  obtain ⟨k, rfl⟩ := Int.eq_ofNat_of_zero_le h0
  obtain ⟨c1, c2, c3⟩ := hc k (by omega)
  have d := hc (k - 1) (by omega)
  obtain ⟨d1, d2, d3⟩ := d
  rw [Int.toNat_natCast]
  generalize hz : edgeErr g k = z
  unfold edgeErr at hz
  generalize hx : g.es[k]?.getD default = x at *
  generalize hy : g.es[k - 1]?.getD default = y at *
  have HZ := hid hz
  clear hx hy hc hz
  have hb' : ∀ k, b < w.heap.size + k := fun k => by omega
  go_enter Tryz.func49, Tryz.ntmps49
  go_wp2_with (go_at_call 74; refine (r08_Vertex _ _ _ _).mono ?_; rintro e w' ⟨rfl, rfl⟩)
  all_goals (go_ret; refine ⟨ret_int ?_, by go_grown⟩; have hz := HZ.out; clear HZ; first | grind | skip)

set_option maxHeartbeats 1000000 in
theorem r08_Check (g : G) (gv : Value) (w : World) (hg : GrR w gv g) :
    Calls Tryz.prog 22 #[gv] w fun e w' => e = .returned (.int .i64 (checkErr g)) ∧ Below w.heap.size w w' := by
  have hg' := hg
  obtain ⟨ev, rfl, a, cap, rfl, hcap, hcm, hlen, hc⟩ := hg'
  generalize hz : checkErr g = z
  unfold checkErr at hz
  by_cases hn : g.n < 1 ∨ 12 < g.n
  · rw [if_pos hn] at hz
    subst hz
    rcases hn with hn | hn
    all_goals
      go_enter Tryz.func22, Tryz.ntmps22
      go_wp2
      all_goals (go_ret; exact ⟨rfl, by go_grown⟩)
  rw [if_neg hn] at hz
  have h1 : 1 ≤ g.n := by omega
  have h2 : g.n ≤ 12 := by omega
  have HZ := hid hz
  clear hz hn
  go_enter Tryz.func22, Tryz.ntmps22
  go_wp2
  go_loopw [3] (fun i wr => ∃ k : Nat, k ≤ g.es.length ∧ i = .int .i64 k ∧ Hid (firstNZ (edgeErr g) k (g.es.length - k) = z) ∧
      Below (w.alloc (.cells #[.int .i64 g.n, .slice a g.es.length cap] 24)).heap.size (w.alloc (.cells #[.int .i64 g.n, .slice a g.es.length cap] 24)) wr)
    (fun i _ => g.es.length - (intOf i).toNat)
  case atStart => exact ⟨0, Nat.zero_le _, rfl, HZ, Below.refl _ _⟩
  case round =>
    obtain ⟨k, hk, rfl, HZ, hB⟩ := hrel
    obtain ⟨r1, r2⟩ := bcell hB
    have hBw : Below w.heap.size w wr := up (by go_grown) hB
    have hgr := hid (hg.below hBw)
    by_cases hlt : k < g.es.length
    · have HS := hid (firstNZ_step (edgeErr g) k g.es.length hlt)
      by_cases h0 : edgeErr g k = 0
      · go_wp2_with (go_at_call 49; refine (r08_edge g _ _ _ hgr.out (by omega) (by omega)).mono ?_; rintro e w' ⟨rfl, hB'⟩)
        go_roundw
        case rel => exact ⟨k + 1, by omega, by go_num, hid (by rw [← HZ.out, HS.out, if_neg (by simpa using h0)]), up hB hB'⟩
        case measure => simp [intOf]; omega
      · go_wp2_with (go_at_call 49; refine (r08_edge g _ _ _ hgr.out (by omega) (by omega)).mono ?_; rintro e w' ⟨rfl, hB'⟩)
        go_ret
        refine ⟨ret_int ?_, up hBw hB'⟩
        rw [← HZ.out, HS.out, if_pos (by simpa using h0)]
    · go_wp2
      go_ret
      refine ⟨ret_int ?_, hBw⟩
      rw [← HZ.out, firstNZ_end _ _ _ (by omega)]

end Go.Proofs.YtbjoblkigbphhaaGreat

namespace Go.Proofs.YtbjoblkigbphhaaGreat
open Go.RowKit

set_option maxHeartbeats 1000000 in
theorem r08_Between (g : G) (gv : Value) (p q : Int) (w : World) (hg : GrR w gv g) :
    Calls Tryz.prog 53 #[gv, .int .i64 p, .int .i64 q] w fun e w' => e = .returned (.int .i64 (btw g p q)) ∧ Below w.heap.size w w' := by
  obtain ⟨ev, rfl, a, cap, rfl, hcap, hcm, hlen, hc⟩ := hg
  generalize hz : btw g p q = z
  unfold btw at hz
  have HZ := hid hz
  clear hz
  go_enter Tryz.func53, Tryz.ntmps53
  go_wp2
  go_loopw [7] (fun i wr => ∃ k : Nat, k ≤ g.es.length ∧ i = .int .i64 k ∧ Hid (bet (min p q) (max p q) (g.es.drop k) = z) ∧
      Below (w.alloc (.cells #[.int .i64 g.n, .slice a g.es.length cap] 24)).heap.size (w.alloc (.cells #[.int .i64 g.n, .slice a g.es.length cap] 24)) wr)
    (fun i _ => g.es.length - (intOf i).toNat)
  case atStart => exact ⟨0, Nat.zero_le _, rfl, HZ, Below.refl _ _⟩
  case round =>
    obtain ⟨k, hk, rfl, HZ, hB⟩ := hrel
    obtain ⟨r1, r2⟩ := bcell hB
    have hBw : Below w.heap.size w wr := up (by go_grown) hB
    by_cases hlt : k < g.es.length
    · have HS := hid (drop_step g.es k hlt)
      obtain ⟨b, off, rfl, hb, hc⟩ := (hc.below hBw).edge (by omega)
      obtain ⟨c1, c2, c3⟩ := hc k hlt
      clear hc
      have hs : w.heap.size + 1 ≤ wr.heap.size := by have := hB.size; simpa using this
      have hb' : ∀ k, b < wr.heap.size + k := fun k => by omega
      generalize g.es[k]?.getD default = x at *
      by_cases hpq : q < p
      all_goals
        go_wp2
        all_goals first
          | (go_ret
             refine ⟨ret_int ?_, by go_grown⟩
             have h1 := HZ.out; rw [HS.out] at h1; simp only [bet] at h1
             grind)
          | (go_roundw
             case rel =>
               refine ⟨k + 1, by omega, by go_num, hid ?_, by go_grown⟩
               have h1 := HZ.out; rw [HS.out] at h1; simp only [bet] at h1
               grind
             case measure => simp [intOf]; omega)
    · go_wp2
      go_ret
      refine ⟨ret_int ?_, hBw⟩
      rw [← HZ.out, List.drop_eq_nil_of_le (by omega)]; rfl

end Go.Proofs.YtbjoblkigbphhaaGreat

namespace Go.Proofs.YtbjoblkigbphhaaGreat
open Go.RowKit

set_option maxHeartbeats 1000000 in
theorem r08_Valence (g : G) (gv : Value) (v : Int) (w : World) (hg : GrR w gv g) (hk : Gok g) :
    Calls Tryz.prog 54 #[gv, .int .i64 v] w fun e w' => e = .returned (.int .i64 (valence g v)) ∧ Below w.heap.size w w' := by
  have hg' := hg
  obtain ⟨ev, rfl, _⟩ := hg'
  have hn := hk.n
  go_enter Tryz.func54, Tryz.ntmps54
  go_wp2
  go_loopw [5, 6] (fun t i wr => ∃ k : Nat, k ≤ g.n.toNat ∧ i = .int .i64 k ∧ t = .int .i64 (sumTo (valTerm g v) k) ∧
      Below (w.alloc (.cells #[.int .i64 g.n, ev] 24)).heap.size (w.alloc (.cells #[.int .i64 g.n, ev] 24)) wr)
    (fun _ i _ => g.n.toNat - (intOf i).toNat)
  case atStart => exact ⟨0, Nat.zero_le _, rfl, rfl, Below.refl _ _⟩
  case round =>
    obtain ⟨k, hkn, rfl, rfl, hB⟩ := hrel
    obtain ⟨r1, r2⟩ := bcell hB
    have hBw : Below w.heap.size w wr := up (by go_grown) hB
    have hgr := hid (hg.below hBw)
    have hbd := hk.valence_bd v k hkn
    have hbt := hk.btw_bd k v
    by_cases hlt : k < g.n.toNat
    · have hlt' : (k : Int) < g.n := by omega
      by_cases hv : (k : Int) = v
      · have hT : Hid (sumTo (valTerm g v) (k + 1) = sumTo (valTerm g v) k) := by show _ = _; simp [sumTo, valTerm, hv]
        have HV := hid hv
        have hv2 : ((k : Int) != v) = false := by simp [hv]
        clear hv
        go_wp2
        go_roundw
        case rel => exact ⟨k + 1, by omega, by go_num, by rw [hT.out], hB⟩
        case measure => simp [intOf]; omega
      · have hT : Hid (sumTo (valTerm g v) (k + 1) = sumTo (valTerm g v) k + btw g k v) := by show _ = _; simp [sumTo, valTerm, hv]
        go_wp2_with (go_at_call 53; refine (r08_Between g _ _ _ _ hgr.out).mono ?_; rintro e w' ⟨rfl, hB'⟩)
        go_roundw
        case rel => exact ⟨k + 1, by omega, by go_num, by rw [hT.out], up hB hB'⟩
        case measure => simp [intOf]; omega
    · have hlt' : ¬ (k : Int) < g.n := by omega
      obtain rfl : k = g.n.toNat := by omega
      go_wp2
      go_ret
      exact ⟨rfl, hBw⟩

end Go.Proofs.YtbjoblkigbphhaaGreat

namespace Go.Proofs.YtbjoblkigbphhaaGreat
open Go.RowKit

theorem Tryz.underEnds : Tryz.prog.underlying 99 = some (.slice 107) := by kernel_rfl
theorem Tryz.infoPair : (Tryz.prog.info? 107).map (fun i => (i.zero, i.size, i.bytes)) = some (some (.agg #[.int .i64 0, .int .i64 0]), 2, 16) := by kernel_rfl

set_option maxHeartbeats 1000000 in
theorem r08_Ends (g : G) (gv : Value) (w : World) (hg : GrR w gv g) (hk : Gok g) :
    Calls Tryz.prog 101 #[gv] w fun e w' => ∃ v, e = .returned v ∧ w'.ownsRow w.heap.size 107 2 v (endsOf g.es).length (pairCells (endsOf g.es)) ∧ Below w.heap.size w w' := by
  have hg' := hg
  obtain ⟨ev, rfl, a, cap, rfl, hcap, hcm, hlen, hc⟩ := hg'
  have hl := hk.len
  obtain ⟨i0, hi, hz0, hz1, hz2⟩ := info_parts Tryz.infoPair
  go_enter Tryz.func101, Tryz.ntmps101
  go_wp2
  go_loopw [3, 4] (fun t i wr => ∃ k : Nat, k ≤ g.es.length ∧ i = .int .i64 k ∧ wr.ownsRow (w.heap.size + 1) 107 2 t (endsOf (g.es.take k)).length (pairCells (endsOf (g.es.take k))) ∧
      Below (w.alloc (.cells #[.int .i64 g.n, .slice a g.es.length cap] 24)).heap.size (w.alloc (.cells #[.int .i64 g.n, .slice a g.es.length cap] 24)) wr)
    (fun _ i _ => g.es.length - (intOf i).toNat)
  case atStart => exact ⟨0, Nat.zero_le _, rfl, World.ownsRow_nil _ _ _ _, Below.refl _ _⟩
  case round =>
    obtain ⟨k, hkn, rfl, hown, hB⟩ := hrel
    obtain ⟨r1, r2⟩ := bcell hB
    have hBw : Below w.heap.size w wr := up (by go_grown) hB
    by_cases hlt : k < g.es.length
    · have HT := hid (take_step g.es k hlt)
      have HM := hid (hk.ends k hlt)
      generalize hx : g.es[k]?.getD default = x at HT HM
      have HX := hid hx
      clear hx
      obtain ⟨_, _, _, hm1, hm2⟩ := HM.out
      go_wp2
      obtain ⟨wo, hwo⟩ : ∃ wo : World, wo = wr := ⟨_, rfl⟩
      rw [← hwo] at hB r1 r2 hBw hown ⊢
      clear hwo wr
      go_loopw [3, 5] (fun t i wr => ∃ j : Nat, j ≤ x.m.toNat ∧ i = .int .i64 j ∧
          wr.ownsRow (w.heap.size + 1) 107 2 t (endsOf (g.es.take k) ++ List.replicate j (x.a, x.b)).length (pairCells (endsOf (g.es.take k) ++ List.replicate j (x.a, x.b))) ∧
          Below (w.alloc (.cells #[.int .i64 g.n, .slice a g.es.length cap] 24)).heap.size (w.alloc (.cells #[.int .i64 g.n, .slice a g.es.length cap] 24)) wr)
        (fun _ i _ => x.m.toNat - (intOf i).toNat)
      case atStart => exact ⟨0, Nat.zero_le _, rfl, by simpa using hown, hB⟩
      case round =>
        clear hown r1 r2 hB hBw
        obtain ⟨j, hj, rfl, hown, hB⟩ := hrel
        obtain ⟨r1, r2⟩ := bcell hB
        have hBw : Below w.heap.size w wr := up (by go_grown) hB
        have hs : w.heap.size + 1 ≤ wr.heap.size := by have := hB.size; simpa using this
        obtain ⟨b, off, rfl, hb, hcc⟩ := (hc.below hBw).edge (by omega)
        obtain ⟨c1, c2, c3⟩ := hcc k hlt
        clear hcc
        rw [HX.out] at c1 c2 c3
        have hb' : ∀ k, b < wr.heap.size + k := fun k => by omega
        by_cases hjm : j < x.m.toNat
        · have hjm' : (j : Int) < x.m := by omega
          go_wp2
          have hl1 := endsOf_len (g.es.take k) 50 (fun y hy => by have := hk.mem (List.mem_of_mem_take hy); omega)
          have hl2 : (endsOf (g.es.take k) ++ List.replicate j (x.a, x.b)).length ≤ 100000 := by
            have : (g.es.take k).length ≤ k := List.length_take_le _ _
            simp only [List.length_append, List.length_replicate]; omega
          go_region_law (refine step_append_own rfl (.tmp 23) (.tmp 37) 99 rfl (w.heap.size + 1) 107 i0 _ 2 16 Tryz.underEnds hi hz0 hz1 hz2 rfl (by decide) _ _ _ rfl (ownsRow_ad hown _) ⟨wr.heap.size, 0, none⟩ 1 1 [.int .i64 x.a, .int .i64 x.b] rfl rfl (fun j u h => news_ad wr [.int .i64 x.a, .int .i64 x.b] _ j u h) (by simp [Value.oneCell']) (by unfold maxLen; omega) (by omega) (by simp; omega) ?_; intro v' w1 hown' hgrow _)
          all_goals
            have hB1 := below_append hB hown (by simp) (by simp; omega) (grown_ad wr _ none) hgrow
            clear hown hgrow
            go_wp2
            go_roundw
            case rel =>
              refine ⟨j + 1, by omega, by go_num, ?_, hB1⟩
              have e : endsOf (g.es.take k) ++ List.replicate (j + 1) (x.a, x.b) = (endsOf (g.es.take k) ++ List.replicate j (x.a, x.b)) ++ [(x.a, x.b)] := by
                rw [List.replicate_succ', List.append_assoc]
              rw [e, pairCells_append, List.length_append]
              exact hown'
            case measure => simp [intOf]; omega
        · have hjm' : ¬ (j : Int) < x.m := by omega
          go_wp2
          go_roundw
          case rel =>
            obtain rfl : j = x.m.toNat := by omega
            refine ⟨k + 1, by omega, by go_num, ?_, hB⟩
            rw [HT.out, endsOf_append]
            simpa [endsOf] using hown
          case measure => simp [intOf]; omega
    · obtain rfl : k = g.es.length := by omega
      go_wp2
      go_ret
      rw [List.take_length] at hown
      exact ⟨_, rfl, owns_base hown (by omega), hBw⟩

end Go.Proofs.YtbjoblkigbphhaaGreat

namespace Go.Proofs.YtbjoblkigbphhaaGreat
open Go.RowKit

theorem owns_slice {w : World} {base : Nat} {e : TypeId} {size : Nat} {v : Value} {n : Nat} {xs : List Value} (h : w.ownsRow base e size v n xs) : ∃ a cap, v = .slice a n cap := by
  rcases h.2 with ⟨rfl, rfl⟩ | ⟨g, cap, cur, rfl, _⟩
  · exact ⟨_, _, rfl⟩
  · exact ⟨_, _, rfl⟩

/-- The number of single edges. -/
def sizeOf (g : G) : Int := (endsOf g.es).length

theorem Gok.sizeOf_bd {g : G} (h : Gok g) : 0 ≤ sizeOf g ∧ sizeOf g ≤ 7200 := by
  have h1 := endsOf_len g.es 50 (fun y hy => by have := h.mem hy; omega)
  have h2 := h.len
  unfold Go.Proofs.YtbjoblkigbphhaaGreat.sizeOf
  omega

theorem r08_Size (g : G) (gv : Value) (w : World) (hg : GrR w gv g) (hk : Gok g) :
    Calls Tryz.prog 93 #[gv] w fun e w' => e = .returned (.int .i64 (sizeOf g)) ∧ Below w.heap.size w w' := by
  have hg' := hg
  obtain ⟨ev, rfl, _⟩ := hg'
  have hgr := hid (hg.below (w' := w.alloc (.cells #[.int .i64 g.n, ev] 24)) (by go_grown))
  go_enter Tryz.func93, Tryz.ntmps93
  go_wp2_with (go_at_call 101; refine (r08_Ends g _ _ hgr.out hk).mono ?_; rintro e w' ⟨v, rfl, hown, hB⟩; obtain ⟨a, cap, rfl⟩ := owns_slice hown)
  go_ret
  exact ⟨rfl, up (by go_grown) hB⟩

/-- Is a graph small, or wrong? -/
def smallB (g : G) (n s : Int) : Bool :=
  if 40 < g.es.length then false else if checkErr g ≠ 0 then true else decide (g.n ≤ n) && decide (sizeOf g ≤ s)

set_option maxHeartbeats 400000 in
theorem r08_small (g : G) (gv : Value) (n s : Int) (w : World) (hg : GrR w gv g) :
    Calls Tryz.prog 72 #[gv, .int .i64 n, .int .i64 s] w fun e w' => e = .returned (.bool (smallB g n s)) ∧ Below w.heap.size w w' := by
  have hg' := hg
  obtain ⟨ev, rfl, a, cap, rfl, _⟩ := hg'
  have hgr := hid (hg.below (w' := w.alloc (.cells #[.int .i64 g.n, .slice a g.es.length cap] 24)) (by go_grown))
  generalize hz : smallB g n s = z
  unfold smallB at hz
  have HZ := hid hz
  clear hz
  by_cases h40 : 40 < g.es.length
  · go_enter Tryz.func72, Tryz.ntmps72
    go_wp2
    go_ret
    exact ⟨ret_bool (by rw [← HZ.out, if_pos h40]), by go_grown⟩
  · by_cases hc : checkErr g = 0
    · have hcN := hid hc
      have hcB : (checkErr g != 0) = false := by simp [hc]
      clear hc
      by_cases hn : g.n ≤ n
      · go_enter Tryz.func72, Tryz.ntmps72
        go_wp2_with (first
          | (go_at_call 22; refine (r08_Check g _ _ hgr.out).mono ?_; rintro e w1 ⟨rfl, hB1⟩; obtain ⟨r1, r2⟩ := bcell hB1)
          | (go_at_call 93; refine (r08_Size g _ _ (hgr.out.below (by assumption)) hcN.out).mono ?_; rintro e w2 ⟨rfl, hB2⟩))
        all_goals
          go_ret
          refine ⟨ret_bool ?_, up (up (by go_grown) hB1) hB2⟩
          rw [← HZ.out, if_neg h40, if_neg (by simpa using hcN.out)]; simp [hn]
      · go_enter Tryz.func72, Tryz.ntmps72
        go_wp2_with (go_at_call 22; refine (r08_Check g _ _ hgr.out).mono ?_; rintro e w1 ⟨rfl, hB1⟩; obtain ⟨r1, r2⟩ := bcell hB1)
        all_goals
          go_ret
          refine ⟨ret_bool ?_, up (by go_grown) hB1⟩
          rw [← HZ.out, if_neg h40, if_neg (by simpa using hcN.out)]; simp; omega
    · have hcB : (checkErr g != 0) = true := by simp [hc]
      go_enter Tryz.func72, Tryz.ntmps72
      go_wp2_with (go_at_call 22; refine (r08_Check g _ _ hgr.out).mono ?_; rintro e w1 ⟨rfl, hB1⟩; obtain ⟨r1, r2⟩ := bcell hB1)
      all_goals
        go_ret
        refine ⟨ret_bool ?_, up (by go_grown) hB1⟩
        rw [← HZ.out, if_neg h40, if_pos (by simpa using hc)]

theorem r08_Few (g : G) (gv : Value) (w : World) (hg : GrR w gv g) :
    Calls Tryz.prog 46 #[gv] w fun e w' => e = .returned (.bool (smallB g 6 9)) ∧ Below w.heap.size w w' := by
  have hg' := hg
  obtain ⟨ev, rfl, _⟩ := hg'
  have hgr := hid (hg.below (w' := w.alloc (.cells #[.int .i64 g.n, ev] 24)) (by go_grown))
  go_enter Tryz.func46, Tryz.ntmps46
  go_wp2_with (go_at_call 72; refine (r08_small g _ _ _ _ hgr.out).mono ?_; rintro e w' ⟨rfl, hB⟩)
  go_ret
  exact ⟨rfl, up (by go_grown) hB⟩

theorem r17_Few (ds : List Int) (dv : Value) (w : World) (hd : IntsR w dv ds) :
    Calls Tryz.prog 47 #[dv] w fun e w' => e = .returned (.bool (decide (ds.length ≤ 24))) ∧ w = w' := by
  obtain ⟨a, cap, rfl, _⟩ := hd
  go_enter Tryz.func47, Tryz.ntmps47
  go_wp2
  go_ret
  exact ⟨ret_bool (by simp; omega), rfl⟩

/-- Few vertices and single edges, and few chips. -/
def few18 (g : G) (ds : List Int) : Bool := smallB g 6 9 && decide (ds.length ≤ 24)

theorem r18_Few (g : G) (gv : Value) (ds : List Int) (dv : Value) (w : World) (hg : GrR w gv g) (hd : IntsR w dv ds) :
    Calls Tryz.prog 18 #[gv, dv] w fun e w' => e = .returned (.bool (few18 g ds)) ∧ Below w.heap.size w w' := by
  have hg' := hg
  obtain ⟨ev, rfl, _⟩ := hg'
  have hgr := hid (hg.below (w' := w.alloc (.cells #[.int .i64 g.n, ev] 24)) (by go_grown))
  have hdr := hid (hd.below (w' := w.alloc (.cells #[.int .i64 g.n, ev] 24)) (by go_grown))
  generalize hz : few18 g ds = z
  unfold few18 at hz
  have HZ := hid hz
  clear hz
  go_enter Tryz.func18, Tryz.ntmps18
  go_wp2_with (first
    | (go_at_call 46; refine (r08_Few g _ _ hgr.out).mono ?_; rintro e w1 ⟨rfl, hB1⟩)
    | (go_at_call 47; refine (r17_Few ds _ _ (hdr.out.below (by assumption))).mono ?_; rintro e w2 ⟨rfl, rfl⟩))
  all_goals
    go_ret
    refine ⟨ret_bool ?_, up (by go_grown) hB1⟩
    rw [← HZ.out]; simp [*]

end Go.Proofs.YtbjoblkigbphhaaGreat

namespace Go.Proofs.YtbjoblkigbphhaaGreat
open Go.RowKit

theorem Tryz.underBools : Tryz.prog.underlying 153 = some (.slice 4) := by kernel_rfl
theorem Tryz.infoBool : (Tryz.prog.info? 4).map (fun i => (i.zero, i.size, i.bytes)) = some (some (.bool false), 1, 1) := by kernel_rfl

set_option maxRecDepth 100000 in
set_option maxHeartbeats 1000000 in
theorem r08_Reached (g : G) (gv : Value) (v : Int) (w : World) (hg : GrR w gv g) (hk : Gok g) (hv0 : 0 ≤ v) (hvn : v < g.n) :
    Calls Tryz.prog 102 #[gv, .int .i64 v] w fun e w' => ∃ b, e = .returned (.slice (some ⟨b, 0, none⟩) g.n.toNat g.n.toNat) ∧
      w'.ownsRow w.heap.size 4 1 (.slice (some ⟨b, 0, none⟩) g.n.toNat g.n.toNat) g.n.toNat ((reached g v).map Value.bool) ∧ Below w.heap.size w w' := by
  have hg' := hg
  obtain ⟨ev, rfl, _⟩ := hg'
  obtain ⟨hn1, hn2⟩ := hk.n
  have hvt : v.toNat < g.n.toNat := by omega
  go_enter Tryz.func102, Tryz.ntmps102
  go_wp2_with (at_make; refine wpList_mk1 _ Value.bool false rfl _ _ 153 rfl (w.heap.size + 1) 4 1 Tryz.underBools Tryz.infoBool rfl g.n rfl rfl (by omega) (by omega) (by omega) (w.heap.size + 1) (by simp) (by omega) ?_; intro w1 hown hB1; obtain ⟨r1, r2⟩ := bcell hB1; have c1 := owns_bool hown v.toNat hvt; have f1 := hown.frozenAt v.toNat)
  have hown2 := owns_set (f := Value.bool) hown v.toNat true
  have hB2 : Below (w.heap.size + 1) (w.alloc (.cells #[.int .i64 g.n, ev] 24)) (w1.setCell ⟨w.heap.size + 1, v.toNat, none⟩ (.bool true)) := by
    have h := hB1; simp only [World.size_alloc] at h; exact h.setCell (by simp) _
  clear hown hB1 r1 r2 c1 f1
  generalize w1.setCell ⟨w.heap.size + 1, v.toNat, none⟩ (.bool true) = w2 at *
  go_loopw [6] (fun i wr => ∃ r : Nat, r ≤ g.n.toNat ∧ i = .int .i64 r ∧
      wr.ownsRow (w.heap.size + 1) 4 1 (.slice (some ⟨w.heap.size + 1, 0, none⟩) g.n.toNat g.n.toNat) g.n.toNat ((rR g r ((List.replicate g.n.toNat false).set v.toNat true)).map Value.bool) ∧
      Below (w.heap.size + 1) (w.alloc (.cells #[.int .i64 g.n, ev] 24)) wr)
    (fun i _ => g.n.toNat - (intOf i).toNat)
  case atStart => exact ⟨0, Nat.zero_le _, rfl, hown2, hB2⟩
  case round =>
    clear hown2 hB2
    obtain ⟨r, hr, rfl, hown, hB⟩ := hrel
    obtain ⟨r1, r2⟩ := bcellB hB
    by_cases hlt : r < g.n.toNat
    · have hlt' : (r : Int) < g.n := by omega
      have HS : Hid (rR g (r + 1) ((List.replicate g.n.toNat false).set v.toNat true) = rA g g.n.toNat (rR g r ((List.replicate g.n.toNat false).set v.toNat true))) := rfl
      generalize rR g r ((List.replicate g.n.toNat false).set v.toNat true) = L1 at *
      go_wp2
      obtain ⟨wo, hwo⟩ : ∃ wo : World, wo = wr := ⟨_, rfl⟩
      rw [← hwo] at hB r1 r2 hown ⊢
      clear hwo wr
      go_loopw [7] (fun i wr => ∃ p : Nat, p ≤ g.n.toNat ∧ i = .int .i64 p ∧
      wr.ownsRow (w.heap.size + 1) 4 1 (.slice (some ⟨w.heap.size + 1, 0, none⟩) g.n.toNat g.n.toNat) g.n.toNat ((rA g p L1).map Value.bool) ∧
      Below (w.heap.size + 1) (w.alloc (.cells #[.int .i64 g.n, ev] 24)) wr)
    (fun i _ => g.n.toNat - (intOf i).toNat)
      case atStart => exact ⟨0, Nat.zero_le _, rfl, hown, hB⟩
      case round =>
        clear hown hB r1 r2
        obtain ⟨p, hp, rfl, hown, hB⟩ := hrel
        obtain ⟨r1, r2⟩ := bcellB hB
        by_cases hpt : p < g.n.toNat
        · have hpt' : (p : Int) < g.n := by omega
          have HP : Hid (rA g (p + 1) L1 = rB g p g.n.toNat (rA g p L1)) := rfl
          generalize rA g p L1 = L2 at *
          go_wp2
          obtain ⟨wo2, hwo⟩ : ∃ wo2 : World, wo2 = wr := ⟨_, rfl⟩
          rw [← hwo] at hB r1 r2 hown ⊢
          clear hwo wr
          go_loopw [8] (fun i wr => ∃ q : Nat, q ≤ g.n.toNat ∧ i = .int .i64 q ∧
      wr.ownsRow (w.heap.size + 1) 4 1 (.slice (some ⟨w.heap.size + 1, 0, none⟩) g.n.toNat g.n.toNat) g.n.toNat ((rB g p q L2).map Value.bool) ∧
      Below (w.heap.size + 1) (w.alloc (.cells #[.int .i64 g.n, ev] 24)) wr)
    (fun i _ => g.n.toNat - (intOf i).toNat)
          case atStart => exact ⟨0, Nat.zero_le _, rfl, hown, hB⟩
          case round =>
            clear hown hB r1 r2
            obtain ⟨q, hq, rfl, hown, hB⟩ := hrel
            obtain ⟨r1, r2⟩ := bcellB hB
            by_cases hqt : q < g.n.toNat
            · have hqt' : (q : Int) < g.n := by omega
              have HQ : Hid (rB g p (q + 1) L2 = rStp g p q (rB g p q L2)) := rfl
              generalize rB g p q L2 = L4 at *
              have hBw : Below w.heap.size w wr := by
                have h : Below w.heap.size w (w.alloc (.cells #[.int .i64 g.n, ev] 24)) := by go_grown
                exact h.trans (hB.mono (by omega))
              have hgr := hid (hg.below hBw)
              have c1 := owns_bool hown p hpt
              have hs := hown.lt _ rfl
              cases hx : L4[p]?.getD false with
              | false =>
                rw [hx] at c1
                go_wp2
                go_roundw
                case rel => exact ⟨q + 1, by omega, by go_num, by rw [HQ.out]; simpa [rStp, hx] using hown, hB⟩
                case measure => simp [intOf]; omega
              | true =>
                rw [hx] at c1
                have hbig : ∀ w', Below wr.heap.size wr w' → Below (w.heap.size + 1) (w.alloc (.cells #[.int .i64 g.n, ev] 24)) w' := fun w' h => hB.trans (h.mono (by have := hs.2; omega))
                by_cases hb : 0 < btw g p q
                · go_wp2_with (go_at_call 53; refine (r08_Between g _ _ _ _ hgr.out).mono ?_; rintro e w' ⟨rfl, hB'⟩; have hown' := owns_below hown hB'; have c2 := owns_bool hown' q hqt; have f2 := hown'.frozenAt q)
                  go_roundw
                  case rel =>
                    refine ⟨q + 1, by omega, by go_num, ?_, (hbig _ hB').setCell (by simp) _⟩
                    rw [HQ.out, show rStp g p q L4 = L4.set q true by simp [rStp, hx, hb]]
                    exact owns_set hown' q true
                  case measure => simp [intOf]; omega
                · go_wp2_with (go_at_call 53; refine (r08_Between g _ _ _ _ hgr.out).mono ?_; rintro e w' ⟨rfl, hB'⟩)
                  go_roundw
                  case rel =>
                    refine ⟨q + 1, by omega, by go_num, ?_, hbig _ hB'⟩
                    rw [HQ.out, show rStp g p q L4 = L4 by simp [rStp, hx]; omega]
                    exact owns_below hown hB'
                  case measure => simp [intOf]; omega
            · have hqt' : ¬ (q : Int) < g.n := by omega
              obtain rfl : q = g.n.toNat := by omega
              go_wp2
              go_roundw
              case rel => exact ⟨p + 1, by omega, by go_num, by rw [HP.out]; exact hown, hB⟩
              case measure => simp [intOf]; omega
        · have hpt' : ¬ (p : Int) < g.n := by omega
          obtain rfl : p = g.n.toNat := by omega
          go_wp2
          go_roundw
          case rel => exact ⟨r + 1, by omega, by go_num, by rw [HS.out]; exact hown, hB⟩
          case measure => simp [intOf]; omega
    · have hlt' : ¬ (r : Int) < g.n := by omega
      obtain rfl : r = g.n.toNat := by omega
      go_wp2
      go_ret
      refine ⟨_, rfl, owns_base hown (by omega), ?_⟩
      have h : Below w.heap.size w (w.alloc (.cells #[.int .i64 g.n, ev] 24)) := by go_grown
      exact h.trans (hB.mono (by omega))

end Go.Proofs.YtbjoblkigbphhaaGreat

namespace Go.Proofs.YtbjoblkigbphhaaGreat
open Go.RowKit

set_option maxRecDepth 100000 in
set_option maxHeartbeats 1000000 in
theorem r08_Parts (g : G) (gv : Value) (w : World) (hg : GrR w gv g) (hk : Gok g) :
    Calls Tryz.prog 94 #[gv] w fun e w' => e = .returned (.int .i64 (parts g)) ∧ Below w.heap.size w w' := by
  have hg' := hg
  obtain ⟨ev, rfl, _⟩ := hg'
  obtain ⟨hn1, hn2⟩ := hk.n
  have hW : Below w.heap.size w (w.alloc (.cells #[.int .i64 g.n, ev] 24)) := by go_grown
  go_enter Tryz.func94, Tryz.ntmps94
  go_wp2_with (at_make; refine wpList_mk1 _ Value.bool false rfl _ _ 153 rfl (w.heap.size + 1) 4 1 Tryz.underBools Tryz.infoBool rfl g.n rfl rfl (by omega) (by omega) (by omega) (w.heap.size + 1) (by simp) (by omega) ?_; intro w1 hown hB1)
  have hB2 : Below (w.heap.size + 1) (w.alloc (.cells #[.int .i64 g.n, ev] 24)) w1 := by
    have h := hB1; simp only [World.size_alloc] at h; exact h
  go_loopw [3, 5] (fun t i wr => ∃ k : Nat, k ≤ g.n.toNat ∧ i = .int .i64 k ∧ t = .int .i64 (partsTo g k).1 ∧
      wr.ownsRow (w.heap.size + 1) 4 1 (.slice (some ⟨w.heap.size + 1, 0, none⟩) g.n.toNat g.n.toNat) g.n.toNat (((partsTo g k).2).map Value.bool) ∧
      Below (w.heap.size + 1) (w.alloc (.cells #[.int .i64 g.n, ev] 24)) wr)
    (fun _ i _ => g.n.toNat - (intOf i).toNat)
  case atStart => exact ⟨0, Nat.zero_le _, rfl, rfl, hown, hB2⟩
  case round =>
    clear hown hB1 hB2
    obtain ⟨k, hkn, rfl, rfl, hown, hB⟩ := hrel
    obtain ⟨r1, r2⟩ := bcellB hB
    by_cases hlt : k < g.n.toNat
    · have hlt' : (k : Int) < g.n := by omega
      have HS : Hid (partsTo g (k + 1) = if (partsTo g k).2[k]?.getD false then partsTo g k else ((partsTo g k).1 + 1, orTo (reached g k) g.n.toNat (partsTo g k).2)) := rfl
      obtain ⟨hp1, hp2⟩ := partsTo_bd g k
      have hln := hid (partsTo_len g k)
      generalize hP : partsTo g k = P at *
      clear hP
      obtain ⟨pn, ps⟩ := P
      dsimp only at *
      have c1 := owns_bool hown k hlt
      have hs := owns_lt hown
      have hBw : Below w.heap.size w wr := hW.trans (hB.mono (by omega))
      have hgr := hid (hg.below hBw)
      cases hx : ps[k]?.getD false with
      | true =>
        rw [hx] at c1
        go_wp2
        go_roundw
        case rel =>
          refine ⟨k + 1, by omega, by go_num, ?_, ?_, hB⟩
          · rw [HS.out, if_pos hx]
          · rw [HS.out, if_pos hx]; exact hown
        case measure => simp [intOf]; omega
      | false =>
        rw [hx] at c1
        have hbig : ∀ w', Below wr.heap.size wr w' → Below (w.heap.size + 1) (w.alloc (.cells #[.int .i64 g.n, ev] 24)) w' := fun w' h => hB.trans (h.mono (by have := hs.2; omega))
        go_wp2_with (go_at_call 102; refine (r08_Reached g _ _ _ hgr.out hk (by omega) (by omega)).mono ?_; rintro e w2 ⟨rb, rfl, hrow, hB'⟩)
        have hrb := owns_lt hrow
        have hB2 := hbig _ hB'
        have hown2 := owns_below hown hB'
        clear hown c1 r1 r2 hbig hgr
        go_loopw [7] (fun i wr => ∃ u : Nat, u ≤ g.n.toNat ∧ i = .int .i64 u ∧
            wr.ownsRow (w.heap.size + 1) 4 1 (.slice (some ⟨w.heap.size + 1, 0, none⟩) g.n.toNat g.n.toNat) g.n.toNat ((orTo (reached g k) u ps).map Value.bool) ∧
            wr.ownsRow w.heap.size 4 1 (.slice (some ⟨rb, 0, none⟩) g.n.toNat g.n.toNat) g.n.toNat ((reached g k).map Value.bool) ∧
            Below (w.heap.size + 1) (w.alloc (.cells #[.int .i64 g.n, ev] 24)) wr)
          (fun i _ => g.n.toNat - (intOf i).toNat)
        case atStart => exact ⟨0, Nat.zero_le _, rfl, hown2, owns_base hrow (by omega), hB2⟩
        case round =>
          clear hB hB2 hown2 hrow hB' hBw
          obtain ⟨u, hu, rfl, hown, hrow, hB⟩ := hrel
          obtain ⟨r1, r2⟩ := bcellB hB
          by_cases hut : u < g.n.toNat
          · have hut' : (u : Int) < g.n := by omega
            have HQ : Hid (orTo (reached g k) (u + 1) ps = (orTo (reached g k) u ps).set u (((orTo (reached g k) u ps)[u]?.getD false) || ((reached g k)[u]?.getD false))) := rfl
            generalize orTo (reached g k) u ps = so at *
            have c1 := owns_bool hown u hut
            have c2 := owns_bool hrow u hut
            have f1 := hown.frozenAt u
            have hne : rb ≠ w.heap.size + 1 := by omega
            cases hy : so[u]?.getD false with
            | true =>
              rw [hy] at c1
              go_wp2
              go_roundw
              case rel =>
                refine ⟨u + 1, by omega, by go_num, ?_, owns_other hrow hne _ _, hB.setCell (by simp) _⟩
                rw [HQ.out, hy, Bool.true_or]
                exact owns_set hown u true
              case measure => simp [intOf]; omega
            | false =>
              rw [hy] at c1
              generalize hz : (reached g k)[u]?.getD false = z at *
              go_wp2
              go_roundw
              case rel =>
                refine ⟨u + 1, by omega, by go_num, ?_, owns_other hrow hne _ _, hB.setCell (by simp) _⟩
                rw [HQ.out, hy, Bool.false_or]
                exact owns_set hown u z
              case measure => simp [intOf]; omega
          · have hut' : ¬ (u : Int) < g.n := by omega
            obtain rfl : u = g.n.toNat := by omega
            go_wp2
            go_roundw
            case rel =>
              refine ⟨k + 1, by omega, by go_num, ?_, ?_, hB⟩
              · rw [HS.out, if_neg (by simp [hx])]
              · rw [HS.out, if_neg (by simp [hx])]; exact hown
            case measure => simp [intOf]; omega
    · have hlt' : ¬ (k : Int) < g.n := by omega
      obtain rfl : k = g.n.toNat := by omega
      go_wp2
      go_ret
      exact ⟨rfl, hW.trans (hB.mono (by omega))⟩

theorem r08_Connected (g : G) (gv : Value) (w : World) (hg : GrR w gv g) (hk : Gok g) :
    Calls Tryz.prog 73 #[gv] w fun e w' => e = .returned (.bool (parts g == 1)) ∧ Below w.heap.size w w' := by
  have hg' := hg
  obtain ⟨ev, rfl, _⟩ := hg'
  have hgr := hid (hg.below (w' := w.alloc (.cells #[.int .i64 g.n, ev] 24)) (by go_grown))
  go_enter Tryz.func73, Tryz.ntmps73
  go_wp2_with (go_at_call 94; refine (r08_Parts g _ _ hgr.out hk).mono ?_; rintro e w' ⟨rfl, hB⟩)
  go_ret
  exact ⟨rfl, up (by go_grown) hB⟩

end Go.Proofs.YtbjoblkigbphhaaGreat
