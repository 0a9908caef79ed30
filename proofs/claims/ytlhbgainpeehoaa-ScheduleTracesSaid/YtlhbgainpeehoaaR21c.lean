/-
  Contracts of the reference for schedules: Settle.
-/
import Derived.Test.YtlhbgainpeehoaaR21b
namespace Go.Proofs.Ytlhbgainpeehoaa
open Go.RowKit

set_option maxRecDepth 100000 in
set_option maxHeartbeats 2000000 in
theorem r21_Settle (g : G) (gv : Value) (q : Int) (ds : List Int) (dv : Value) (picks : List Int) (pv : Value) (w : World) (hg : GrR w gv g) (hd : IntsR w dv ds) (hp : IntsR w pv picks) :
    Calls Try.prog 22 #[gv, .int .i64 q, dv, pv] w (RetTri 3 w g.n.toNat (settleR g q ds picks)) := by
  have hg' := hg
  obtain ⟨ev, rfl, _⟩ := hg'
  generalize hz : settleR g q ds picks = z
  unfold settleR at hz
  have hW : Below w.heap.size w (w.alloc (.cells #[.int .i64 g.n, ev] 24)) := by go_grown
  have hgr := hid (hg.below hW)
  have hdr := hid (hd.below hW)
  have hpr := hid (hp.below hW)
  by_cases hc : givErr g q ds picks = 0
  case neg =>
    rw [if_pos hc] at hz
    subst hz
    have hb : (givErr g q ds picks != 0) = true := by simpa using hc
    clear hc
    go_enter Try.func22, Try.ntmps22
    go_wp2_with (go_at_call 54; refine (r21_given g _ _ ds _ picks _ _ hgr.out hdr.out hpr.out).mono ?_; rintro e w1 ⟨rfl, hB1⟩; obtain ⟨r1, r2⟩ := bcell hB1)
    go_ret3
    exact ⟨up hW hB1, rfl⟩
  rw [if_neg (by simpa using hc)] at hz
  have hb : (givErr g q ds picks != 0) = false := by simpa using hc
  obtain ⟨h1, h2⟩ := giv_ok hc
  obtain ⟨hk, hq0, hqn, hdl, hdb, _⟩ := cfg_ok h1
  obtain ⟨hp1, hp2, hp3⟩ := pk_ok h2
  obtain ⟨N, hN⟩ : ∃ N : Nat, N = g.n.toNat := ⟨_, rfl⟩
  rw [← hN] at hz ⊢
  have hN1 : (N : Int) ≤ g.n := by have := hk.n; omega
  have hN2 : g.n ≤ (N : Int) := by have := hk.n; omega
  obtain ⟨d, hd0⟩ : ∃ d : Nat → Int, d = fun u : Nat => ds[u]?.getD 0 := ⟨_, rfl⟩
  rw [← hd0] at hz
  have hdN : ds = vecOf N d := by
    rw [hd0]
    have := vecOf_self ds
    rw [show ds.length = N by omega] at this
    exact this.symm
  have hdd : ∀ u, u < N → -1048576 ≤ d u ∧ d u ≤ 1048576 := fun u hu => by
    rw [hd0]
    have hu' : u < ds.length := by omega
    have := hdb _ (List.getElem_mem hu')
    simpa [hu'] using this
  have hdr2 : Hid (∀ W' : World, Below w.heap.size w W' → IntsR W' dv (vecOf N d)) := fun W' h => by rw [← hdN]; exact hd.below h
  have HQ : Hid (q.toNat < N) := by show _ < _; omega
  have HQ2 : Hid (((q.toNat : Nat) : Int) = q) := by show _ = _; omega
  clear hc h1 h2 hN hdN hd0
  have hset := hid (fun (W' : World) (h : Below w.heap.size w W') => r21_Settled g _ N hN1 hN2 q d _ picks _ W' (hg.below h) hk (hdr2.out W' h) (hp.below h) hp1 (by omega) hp3 hdd)
  cases hs : sGo g q N picks maxF 0 ⟨d, fun _ => 0⟩ with
  | none =>
    rw [hs] at hz hset
    dsimp only at hz
    subst hz
    clear hs
    go_enter Try.func22, Try.ntmps22
    go_wp2_with (first
      | (go_at_call 54; refine (r21_given g _ _ ds _ picks _ _ hgr.out hdr.out hpr.out).mono ?_; rintro e w1 ⟨rfl, hB1⟩; obtain ⟨r1, r2⟩ := bcell hB1)
      | (go_at_call 55; refine (hset.out _ (up hW hB1)).mono ?_; rintro e w2 ⟨hB2, rfl⟩))
    go_ret3
    exact ⟨up (up hW hB1) hB2, rfl⟩
  | some s =>
    rw [hs] at hz hset
    dsimp only at hz
    clear hs
    cases hi : inB (s.L q.toNat) with
    | false =>
      rw [hi] at hz
      simp only [Bool.false_eq_true, if_false] at hz
      subst hz
      go_enter Try.func22, Try.ntmps22
      go_wp2_with (first
        | (go_at_call 54; refine (r21_given g _ _ ds _ picks _ _ hgr.out hdr.out hpr.out).mono ?_; rintro e w1 ⟨rfl, hB1⟩; obtain ⟨r1, r2⟩ := bcell hB1)
        | (go_at_call 55; refine (hset.out _ (up hW hB1)).mono ?_; rintro e w2 ⟨hB2, b1, c1, b2, c2, rfl, ho1, ho2⟩; have hc1 := owns_int ho1 q.toNat HQ.out; rw [vecOf_get _ _ _ HQ.out] at hc1; have hqN : q < (N : Int) := by omega)
        | (go_at_call 56; refine (r17_In _ _).mono ?_; rintro e w3 ⟨rfl, rfl⟩))
      go_ret3
      exact ⟨up (up hW hB1) hB2, rfl⟩
    | true =>
      rw [hi] at hz
      simp only [if_true] at hz
      subst hz
      go_enter Try.func22, Try.ntmps22
      go_wp2_with (first
        | (go_at_call 54; refine (r21_given g _ _ ds _ picks _ _ hgr.out hdr.out hpr.out).mono ?_; rintro e w1 ⟨rfl, hB1⟩; obtain ⟨r1, r2⟩ := bcell hB1)
        | (go_at_call 55; refine (hset.out _ (up hW hB1)).mono ?_; rintro e w2 ⟨hB2, b1, c1, b2, c2, rfl, ho1, ho2⟩; have hc1 := owns_int ho1 q.toNat HQ.out; rw [vecOf_get _ _ _ HQ.out] at hc1; have hqN : q < (N : Int) := by omega)
        | (go_at_call 56; refine (r17_In _ _).mono ?_; rintro e w3 ⟨rfl, rfl⟩))
      go_ret3
      exact ⟨up (up hW hB1) hB2, b1, c1, b2, c2, rfl, owns_base ho1 (up hW hB1).size, owns_base ho2 (up hW hB1).size⟩

end Go.Proofs.Ytlhbgainpeehoaa
