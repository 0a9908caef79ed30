/-
  Contracts of the reference for graphs (sandpileref08).
-/
import Derived.Test.YtlhbgainpeehoaaProg
import Derived.Test.YtlhbgainpeehoaaSpec
namespace Go.Proofs.Ytlhbgainpeehoaa
open Go.RowKit

theorem r08_Vertex (n v : Int) (ev : Value) (w : World) :
    Calls Try.prog 78 #[.agg #[.int .i64 n, ev], .int .i64 v] w fun e w' => e = .returned (.bool (vtx n v)) ∧ w.alloc (.cells #[.int .i64 n, ev] 24) = w' := by
  go_enter Try.func78, Try.ntmps78
  go_wp2
  · go_ret
    have h : 0 ≤ v := by assumption
    exact ⟨by simp [vtx, h], rfl⟩
  · go_ret
    have h : v < 0 := by assumption
    exact ⟨by simp [vtx]; omega, rfl⟩

set_option maxHeartbeats 1000000 in
theorem r08_edge (g : G) (gv : Value) (i : Int) (w : World) (hg : GrR w gv g) (h0 : 0 ≤ i) (hi : i < g.es.length) :
    Calls Try.prog 88 #[gv, .int .i64 i] w fun e w' => e = .returned (.int .i64 (edgeErr g i.toNat)) ∧ Below w.heap.size w w' := by
  obtain ⟨ev, rfl, a, cap, rfl, hcap, hcm, hlen, hc⟩ := hg
  obtain ⟨b, off, rfl, hb, hc⟩ := hc.edge (by omega)
  obtain ⟨k, rfl⟩ := Int.eq_ofNat_of_zero_le h0
  obtain ⟨c1, c2, c3⟩ := hc k (by omega)
  have d := hc (k - 1) (by omega)
  obtain ⟨d1, d2, d3⟩ := d
  rw [Int.toNat_natCast]
  generalize hz : edgeErr g k = z
  unfold edgeErr at hz
  generalize hx : g.es[k]?.getD default = x at *
  generalize hy : g.es[k - 1]?.getD default = y at *
  have HZ := hid hz
  clear hx hy hc hz
  have hb' : ∀ k, b < w.heap.size + k := fun k => by omega
  go_enter Try.func88, Try.ntmps88
  go_wp2_with (go_at_call 78; refine (r08_Vertex _ _ _ _).mono ?_; rintro e w' ⟨rfl, rfl⟩)
  all_goals (go_ret; refine ⟨ret_int ?_, by go_grown⟩; have hz := HZ.out; clear HZ; first | grind | skip)

set_option maxHeartbeats 1000000 in
theorem r08_Check (g : G) (gv : Value) (w : World) (hg : GrR w gv g) :
    Calls Try.prog 61 #[gv] w fun e w' => e = .returned (.int .i64 (checkErr g)) ∧ Below w.heap.size w w' := by
  have hg' := hg
  obtain ⟨ev, rfl, a, cap, rfl, hcap, hcm, hlen, hc⟩ := hg'
  generalize hz : checkErr g = z
  unfold checkErr at hz
  by_cases hn : g.n < 1 ∨ 12 < g.n
  · rw [if_pos hn] at hz
    subst hz
    rcases hn with hn | hn
    all_goals
      go_enter Try.func61, Try.ntmps61
      go_wp2
      all_goals (go_ret; exact ⟨rfl, by go_grown⟩)
  rw [if_neg hn] at hz
  have h1 : 1 ≤ g.n := by omega
  have h2 : g.n ≤ 12 := by omega
  have HZ := hid hz
  clear hz hn
  go_enter Try.func61, Try.ntmps61
  go_wp2
  go_loopw [3] (fun i wr => ∃ k : Nat, k ≤ g.es.length ∧ i = .int .i64 k ∧ Hid (firstNZ (edgeErr g) k (g.es.length - k) = z) ∧
      Below (w.alloc (.cells #[.int .i64 g.n, .slice a g.es.length cap] 24)).heap.size (w.alloc (.cells #[.int .i64 g.n, .slice a g.es.length cap] 24)) wr)
    (fun i _ => g.es.length - (intOf i).toNat)
  case atStart => exact ⟨0, Nat.zero_le _, rfl, HZ, Below.refl _ _⟩
  case round =>
    obtain ⟨k, hk, rfl, HZ, hB⟩ := hrel
    obtain ⟨r1, r2⟩ := bcell hB
    have hBw : Below w.heap.size w wr := up (by go_grown) hB
    have hgr := hid (hg.below hBw)
    by_cases hlt : k < g.es.length
    · have HS := hid (firstNZ_step (edgeErr g) k g.es.length hlt)
      by_cases h0 : edgeErr g k = 0
      · go_wp2_with (go_at_call 88; refine (r08_edge g _ _ _ hgr.out (by omega) (by omega)).mono ?_; rintro e w' ⟨rfl, hB'⟩)
        go_roundw
        case rel => exact ⟨k + 1, by omega, by go_num, hid (by rw [← HZ.out, HS.out, if_neg (by simpa using h0)]), up hB hB'⟩
        case measure => simp [intOf]; omega
      · go_wp2_with (go_at_call 88; refine (r08_edge g _ _ _ hgr.out (by omega) (by omega)).mono ?_; rintro e w' ⟨rfl, hB'⟩)
        go_ret
        refine ⟨ret_int ?_, up hBw hB'⟩
        rw [← HZ.out, HS.out, if_pos (by simpa using h0)]
    · go_wp2
      go_ret
      refine ⟨ret_int ?_, hBw⟩
      rw [← HZ.out, firstNZ_end _ _ _ (by omega)]

end Go.Proofs.Ytlhbgainpeehoaa
