/-
  Contracts of the reference for graphs (sandpileref08): Size, small, Few; of the references for divisors and firing: Few.
-/
import Derived.Test.YtbjoblkigbphhaaR08
namespace Go.Proofs.Ytbjoblkigbphhaa
open Go.RowKit

theorem owns_slice {w : World} {base : Nat} {e : TypeId} {size : Nat} {v : Value} {n : Nat} {xs : List Value} (h : w.ownsRow base e size v n xs) : ∃ a cap, v = .slice a n cap := by
  rcases h.2 with ⟨rfl, rfl⟩ | ⟨g, cap, cur, rfl, _⟩
  · exact ⟨_, _, rfl⟩
  · exact ⟨_, _, rfl⟩

/-- The number of single edges. -/
def sizeOf (g : G) : Int := (endsOf g.es).length

theorem Gok.sizeOf_bd {g : G} (h : Gok g) : 0 ≤ sizeOf g ∧ sizeOf g ≤ 7200 := by
  have h1 := endsOf_len g.es 50 (fun y hy => by have := h.mem hy; omega)
  have h2 := h.len
  unfold Go.Proofs.Ytbjoblkigbphhaa.sizeOf
  omega

theorem r08_Size (g : G) (gv : Value) (w : World) (hg : GrR w gv g) (hk : Gok g) :
    Calls Try.prog 80 #[gv] w fun e w' => e = .returned (.int .i64 (sizeOf g)) ∧ Below w.heap.size w w' := by
  have hg' := hg
  obtain ⟨ev, rfl, _⟩ := hg'
  have hgr := hid (hg.below (w' := w.alloc (.cells #[.int .i64 g.n, ev] 24)) (by go_grown))
  go_enter Try.func80, Try.ntmps80
  go_wp2_with (go_at_call 85; refine (r08_Ends g _ _ hgr.out hk).mono ?_; rintro e w' ⟨v, rfl, hown, hB⟩; obtain ⟨a, cap, rfl⟩ := owns_slice hown)
  go_ret
  exact ⟨rfl, up (by go_grown) hB⟩

/-- Is a graph small, or wrong? -/
def smallB (g : G) (n s : Int) : Bool :=
  if 40 < g.es.length then false else if checkErr g ≠ 0 then true else decide (g.n ≤ n) && decide (sizeOf g ≤ s)

set_option maxHeartbeats 400000 in
theorem r08_small (g : G) (gv : Value) (n s : Int) (w : World) (hg : GrR w gv g) :
    Calls Try.prog 67 #[gv, .int .i64 n, .int .i64 s] w fun e w' => e = .returned (.bool (smallB g n s)) ∧ Below w.heap.size w w' := by
  have hg' := hg
  obtain ⟨ev, rfl, a, cap, rfl, _⟩ := hg'
  have hgr := hid (hg.below (w' := w.alloc (.cells #[.int .i64 g.n, .slice a g.es.length cap] 24)) (by go_grown))
  generalize hz : smallB g n s = z
  unfold smallB at hz
  have HZ := hid hz
  clear hz
  by_cases h40 : 40 < g.es.length
  · go_enter Try.func67, Try.ntmps67
    go_wp2
    go_ret
    exact ⟨ret_bool (by rw [← HZ.out, if_pos h40]), by go_grown⟩
  · by_cases hc : checkErr g = 0
    · have hcN := hid hc
      have hcB : (checkErr g != 0) = false := by simp [hc]
      clear hc
      by_cases hn : g.n ≤ n
      · go_enter Try.func67, Try.ntmps67
        go_wp2_with (first
          | (go_at_call 37; refine (r08_Check g _ _ hgr.out).mono ?_; rintro e w1 ⟨rfl, hB1⟩; obtain ⟨r1, r2⟩ := bcell hB1)
          | (go_at_call 80; refine (r08_Size g _ _ (hgr.out.below (by assumption)) hcN.out).mono ?_; rintro e w2 ⟨rfl, hB2⟩))
        all_goals
          go_ret
          refine ⟨ret_bool ?_, up (up (by go_grown) hB1) hB2⟩
          rw [← HZ.out, if_neg h40, if_neg (by simpa using hcN.out)]; simp [hn]
      · go_enter Try.func67, Try.ntmps67
        go_wp2_with (go_at_call 37; refine (r08_Check g _ _ hgr.out).mono ?_; rintro e w1 ⟨rfl, hB1⟩; obtain ⟨r1, r2⟩ := bcell hB1)
        all_goals
          go_ret
          refine ⟨ret_bool ?_, up (by go_grown) hB1⟩
          rw [← HZ.out, if_neg h40, if_neg (by simpa using hcN.out)]; simp; omega
    · have hcB : (checkErr g != 0) = true := by simp [hc]
      go_enter Try.func67, Try.ntmps67
      go_wp2_with (go_at_call 37; refine (r08_Check g _ _ hgr.out).mono ?_; rintro e w1 ⟨rfl, hB1⟩; obtain ⟨r1, r2⟩ := bcell hB1)
      all_goals
        go_ret
        refine ⟨ret_bool ?_, up (by go_grown) hB1⟩
        rw [← HZ.out, if_neg h40, if_pos (by simpa using hc)]

theorem r08_Few (g : G) (gv : Value) (w : World) (hg : GrR w gv g) :
    Calls Try.prog 47 #[gv] w fun e w' => e = .returned (.bool (smallB g 6 9)) ∧ Below w.heap.size w w' := by
  have hg' := hg
  obtain ⟨ev, rfl, _⟩ := hg'
  have hgr := hid (hg.below (w' := w.alloc (.cells #[.int .i64 g.n, ev] 24)) (by go_grown))
  go_enter Try.func47, Try.ntmps47
  go_wp2_with (go_at_call 67; refine (r08_small g _ _ _ _ hgr.out).mono ?_; rintro e w' ⟨rfl, hB⟩)
  go_ret
  exact ⟨rfl, up (by go_grown) hB⟩

theorem r17_Few (ds : List Int) (dv : Value) (w : World) (hd : IntsR w dv ds) :
    Calls Try.prog 48 #[dv] w fun e w' => e = .returned (.bool (decide (ds.length ≤ 24))) ∧ w = w' := by
  obtain ⟨a, cap, rfl, _⟩ := hd
  go_enter Try.func48, Try.ntmps48
  go_wp2
  go_ret
  exact ⟨ret_bool (by simp; omega), rfl⟩

/-- Few vertices and single edges, and few chips. -/
def few18 (g : G) (ds : List Int) : Bool := smallB g 6 9 && decide (ds.length ≤ 24)

theorem r18_Few (g : G) (gv : Value) (ds : List Int) (dv : Value) (w : World) (hg : GrR w gv g) (hd : IntsR w dv ds) :
    Calls Try.prog 20 #[gv, dv] w fun e w' => e = .returned (.bool (few18 g ds)) ∧ Below w.heap.size w w' := by
  have hg' := hg
  obtain ⟨ev, rfl, _⟩ := hg'
  have hgr := hid (hg.below (w' := w.alloc (.cells #[.int .i64 g.n, ev] 24)) (by go_grown))
  have hdr := hid (hd.below (w' := w.alloc (.cells #[.int .i64 g.n, ev] 24)) (by go_grown))
  generalize hz : few18 g ds = z
  unfold few18 at hz
  have HZ := hid hz
  clear hz
  go_enter Try.func20, Try.ntmps20
  go_wp2_with (first
    | (go_at_call 47; refine (r08_Few g _ _ hgr.out).mono ?_; rintro e w1 ⟨rfl, hB1⟩)
    | (go_at_call 48; refine (r17_Few ds _ _ (hdr.out.below (by assumption))).mono ?_; rintro e w2 ⟨rfl, rfl⟩))
  all_goals
    go_ret
    refine ⟨ret_bool ?_, up (by go_grown) hB1⟩
    rw [← HZ.out]; simp [*]

end Go.Proofs.Ytbjoblkigbphhaa
