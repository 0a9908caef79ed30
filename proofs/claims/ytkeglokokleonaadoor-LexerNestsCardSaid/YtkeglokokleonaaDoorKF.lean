/-
  LexerNests: the law's walk.
-/
import Derived.Test.YtkeglokokleonaaDoorKE
namespace Go.Proofs.YtkeglokokleonaaDoor
open Go.RowKit

set_option maxRecDepth 100000 in
set_option maxHeartbeats 8000000 in
theorem l_Nests (l : List Tok) (at' : Int) (v : Value) (w : World) (hv : ToksR w v l) : Calls Tryd.prog 5 #[v, .int .i64 at'] w fun e w' => e = .returned (.bool true) ∧ Below w.heap.size w w' := by
  have hF := hid (r_Few l v w hv)
  have hD := hid l_awake
  have hC := hid (fun (n : Int) (z : Int × Int) (hz : closeR l n = z) (w1 : World) (hB : Below w.heap.size w w1) => (p_Close l n v w1 (hv.below hB)).mono fun e w' (h : e = .returned (.tuple #[.int .i64 (closeR l n).1, .int .i64 (closeR l n).2]) ∧ Below w1.heap.size w1 w') => (by rw [hz] at h; exact h : e = .returned (.tuple #[.int .i64 z.1, .int .i64 z.2]) ∧ Below w1.heap.size w1 w'))
  have hV := hid hv
  obtain ⟨a, cap, rfl, hcap, hcap2, hln, hc⟩ := hv
  have HLN := hid hln
  clear hcap hcap2 hln
  cases hz : closeR l at' with
  | mk x er =>
  have hcl := hid (hC.out at' (x, er) hz w (Below.refl _ _))
  by_cases her : er = 0
  · subst her
    obtain ⟨n, m, rfl, rfl, hnm, hml, ho, hcm, hdy⟩ := close_found hz
    have hnl : n < l.length := by omega
    obtain ⟨b, off, rfl, hb, hx⟩ := hc.tok (by omega)
    obtain ⟨x1, x2, x3⟩ := hx n hnl
    obtain ⟨y1, y2, y3⟩ := hx m hml
    have hOn := hid (fun w => r_Opens (l[n]?.getD default) w)
    have hCm := hid (fun w => r_Closes (l[m]?.getD default) w)
    rw [hcm] at hCm
    have ho' : (((opens (l[n]?.getD default) : Nat) : Int) == 0) = false := by simpa using ho
    have hDY := hid hdy
    generalize opens (l[n]?.getD default) = on at *
    generalize l[n]?.getD default = tn at *
    generalize l[m]?.getD default = tm at *
    obtain ⟨kn, tn, pn⟩ := tn
    obtain ⟨km, tm, pm⟩ := tm
    have HX := hid hx
    have hnm1 : ¬ (m : Int) ≤ (n : Int) := by omega
    have hml1 : ¬ (l.length : Int) ≤ (m : Int) := by omega
    have HNL := hid hnl
    have hnm2 : ¬ m ≤ n := by omega
    have hml2 : ¬ l.length ≤ m := by omega
    have hn0 : ¬ (n : Int) < 0 := by omega
    clear hz hx ho hcm hdy
    go_enter Tryd.func5, Tryd.ntmps5
    go_wp2_with fail
    refine hF.out.mono ?_
    rintro e w1 ⟨bb, rfl, hbb, rfl⟩
    cases bb with
    | false =>
      clear hbb
      go_simp
      go_wp2_with fail
      refine (hD.out _).mono ?_
      rintro e w2 ⟨rfl, hB⟩
      go_simp
      go_wp2_with fail
      go_ret
      exact ⟨rfl, hB⟩
    | true =>
      clear hbb
      go_simp
      go_wp2_with fail
      refine hcl.out.mono ?_
      rintro e w2 ⟨rfl, hB⟩
      go_simp
      go_wp2_with fail
      have HBB := hid (show Below w1.heap.size w1 w2 from hB)
      have hcells : Hid (∀ w', Below w1.heap.size w1 w' → w'.cell? ⟨b, off + n * 3, none⟩ = some (.int .i64 kn) ∧ w'.cell? ⟨b, off + n * 3 + 1, none⟩ = some (.string (str tn)) ∧ w'.cell? ⟨b, off + n * 3 + 2, none⟩ = some (.int .i64 pn) ∧
          w'.cell? ⟨b, off + m * 3, none⟩ = some (.int .i64 km) ∧ w'.cell? ⟨b, off + m * 3 + 1, none⟩ = some (.string (str tm)) ∧ w'.cell? ⟨b, off + m * 3 + 2, none⟩ = some (.int .i64 pm) ∧ b < w'.heap.size) := fun w' h => by
        obtain ⟨q1, _⟩ := bcell h
        exact ⟨(q1 _ _ hb).trans x1, (q1 _ _ hb).trans x2, (q1 _ _ hb).trans x3, (q1 _ _ hb).trans y1, (q1 _ _ hb).trans y2, (q1 _ _ hb).trans y3, Nat.lt_of_lt_of_le hb h.size⟩
      have hnl3 : (n : Int) < (l.length : Int) := by omega
      have HBL := hid hb
      clear hB hc x1 x2 x3 y1 y2 y3 hb hcl hV hF
      have d0 : decide ((n : Int) < 0) = false := decide_eq_false (by omega)
      have d1 : decide (m ≤ n) = false := decide_eq_false (by omega)
      have d2 : decide (l.length ≤ m) = false := decide_eq_false (by omega)
      let S : World → Prop := fun w' => w'.cell? ⟨b, off + n * 3, none⟩ = some (.int .i64 kn) ∧ w'.cell? ⟨b, off + n * 3 + 1, none⟩ = some (.string (str tn)) ∧ w'.cell? ⟨b, off + n * 3 + 2, none⟩ = some (.int .i64 pn) ∧
          w'.cell? ⟨b, off + m * 3, none⟩ = some (.int .i64 km) ∧ w'.cell? ⟨b, off + m * 3 + 1, none⟩ = some (.string (str tm)) ∧ w'.cell? ⟨b, off + m * 3 + 2, none⟩ = some (.int .i64 pm) ∧ b < w'.heap.size
      (refine wp_region_text 33 [0,1,2,3,4,5,6,7,8,9,10,11,12,13,14,15,16,17,18,19,20,21,22,23,24,25,27,28,29,30,26,31,32] S (by kernel_rfl) (by kernel_rfl) (by intro _ _ d _ _ h; cases d <;> exact h) ?hS ?_; rotate_left; simp only [List.map_cons, List.map_nil, List.getD_cons_zero, List.getD_cons_succ, List.drop_succ_cons, List.drop_zero])
      case hS => exact hcells.out _ HBB.out.drew
      (refine' wpSeq_take rfl _ (by rfl) ?_ ?_; rotate_left; focus (intro w' hS; (try dsimp only at hS); obtain ⟨z1, z2, z3, z4, z5, z6, z7⟩ := hS; go_simp; (first | done | with_reducible rfl)); (try simp only [Act.put, List.setIfInBounds_toArray, List.set_cons_zero, List.set_cons_succ]))
      (try simp only [Act.put, List.setIfInBounds_toArray, List.set_cons_zero, List.set_cons_succ])
      (refine' wpSeq_take rfl _ (by rfl) ?_ ?_; rotate_left; focus (intro w' hS; (try dsimp only at hS); obtain ⟨z1, z2, z3, z4, z5, z6, z7⟩ := hS; go_simp; (first | done | with_reducible rfl)); (try simp only [Act.put, List.setIfInBounds_toArray, List.set_cons_zero, List.set_cons_succ]))
      (try simp only [Act.put, List.setIfInBounds_toArray, List.set_cons_zero, List.set_cons_succ])
      (refine' wpSeq_take rfl _ (by rfl) ?_ ?_; rotate_left; focus (intro w' hS; (try dsimp only at hS); obtain ⟨z1, z2, z3, z4, z5, z6, z7⟩ := hS; go_simp; (first | done | with_reducible rfl)); (try simp only [Act.put, List.setIfInBounds_toArray, List.set_cons_zero, List.set_cons_succ]))
      (try simp only [Act.put, List.setIfInBounds_toArray, List.set_cons_zero, List.set_cons_succ])
      (refine' wpSeq_take rfl _ (by rfl) ?_ ?_; rotate_left; focus (intro w' hS; (try dsimp only at hS); obtain ⟨z1, z2, z3, z4, z5, z6, z7⟩ := hS; go_simp; (first | done | with_reducible rfl)); (try simp only [Act.put, List.setIfInBounds_toArray, List.set_cons_zero, List.set_cons_succ]))
      (try simp only [Act.put, List.setIfInBounds_toArray, List.set_cons_zero, List.set_cons_succ])
      (refine' wpSeq_take rfl _ (by rfl) ?_ ?_; rotate_left; focus (intro w' hS; (try dsimp only at hS); obtain ⟨z1, z2, z3, z4, z5, z6, z7⟩ := hS; go_simp; (first | done | with_reducible rfl)); (try simp only [Act.put, List.setIfInBounds_toArray, List.set_cons_zero, List.set_cons_succ]))
      (try simp only [Act.put, List.setIfInBounds_toArray, List.set_cons_zero, List.set_cons_succ])
      (refine' wpSeq_take rfl _ (by rfl) ?_ ?_; rotate_left; focus (intro w' hS; (try dsimp only at hS); obtain ⟨z1, z2, z3, z4, z5, z6, z7⟩ := hS; go_simp; (first | done | with_reducible rfl)); (try simp only [Act.put, List.setIfInBounds_toArray, List.set_cons_zero, List.set_cons_succ]))
      (try simp only [Act.put, List.setIfInBounds_toArray, List.set_cons_zero, List.set_cons_succ])
      (refine' wpSeq_take rfl _ (by rfl) ?_ ?_; rotate_left; focus (intro w' hS; (try dsimp only at hS); obtain ⟨z1, z2, z3, z4, z5, z6, z7⟩ := hS; go_simp; (first | done | with_reducible rfl)); (try simp only [Act.put, List.setIfInBounds_toArray, List.set_cons_zero, List.set_cons_succ]))
      (try simp only [Act.put, List.setIfInBounds_toArray, List.set_cons_zero, List.set_cons_succ])
      (refine' wpSeq_take rfl _ (by rfl) ?_ ?_; rotate_left; focus (intro w' hS; (try dsimp only at hS); obtain ⟨z1, z2, z3, z4, z5, z6, z7⟩ := hS; go_simp; (first | done | with_reducible rfl)); (try simp only [Act.put, List.setIfInBounds_toArray, List.set_cons_zero, List.set_cons_succ]))
      (try simp only [Act.put, List.setIfInBounds_toArray, List.set_cons_zero, List.set_cons_succ])
      (refine' wpSeq_take rfl _ (by rfl) ?_ ?_; rotate_left; focus (intro w' hS; (try dsimp only at hS); obtain ⟨z1, z2, z3, z4, z5, z6, z7⟩ := hS; go_simp; (first | done | with_reducible rfl)); (try simp only [Act.put, List.setIfInBounds_toArray, List.set_cons_zero, List.set_cons_succ]))
      (try simp only [Act.put, List.setIfInBounds_toArray, List.set_cons_zero, List.set_cons_succ])
      (refine' wpSeq_take rfl _ (by rfl) ?_ ?_; rotate_left; focus (intro w' hS; (try dsimp only at hS); obtain ⟨z1, z2, z3, z4, z5, z6, z7⟩ := hS; go_simp; (first | done | with_reducible rfl)); (try simp only [Act.put, List.setIfInBounds_toArray, List.set_cons_zero, List.set_cons_succ]))
      (try simp only [Act.put, List.setIfInBounds_toArray, List.set_cons_zero, List.set_cons_succ])
      (refine' wpSeq_take rfl _ (by rfl) ?_ ?_; rotate_left; focus (intro w' hS; (try dsimp only at hS); obtain ⟨z1, z2, z3, z4, z5, z6, z7⟩ := hS; go_simp; (first | done | with_reducible rfl)); (try simp only [Act.put, List.setIfInBounds_toArray, List.set_cons_zero, List.set_cons_succ]))
      (try simp only [Act.put, List.setIfInBounds_toArray, List.set_cons_zero, List.set_cons_succ])
      (refine' wpSeq_take rfl _ (by rfl) ?_ ?_; rotate_left; focus (intro w' hS; (try dsimp only at hS); obtain ⟨z1, z2, z3, z4, z5, z6, z7⟩ := hS; go_simp; (first | done | with_reducible rfl)); (try simp only [Act.put, List.setIfInBounds_toArray, List.set_cons_zero, List.set_cons_succ]))
      (try simp only [Act.put, List.setIfInBounds_toArray, List.set_cons_zero, List.set_cons_succ])
      (refine' wpSeq_take rfl _ (by rfl) ?_ ?_; rotate_left; focus (intro w' hS; (try dsimp only at hS); obtain ⟨z1, z2, z3, z4, z5, z6, z7⟩ := hS; go_simp; (first | done | with_reducible rfl)); (try simp only [Act.put, List.setIfInBounds_toArray, List.set_cons_zero, List.set_cons_succ]))
      (try simp only [Act.put, List.setIfInBounds_toArray, List.set_cons_zero, List.set_cons_succ])
      (refine' wpSeq_take rfl _ (by rfl) ?_ ?_; rotate_left; focus (intro w' hS; (try dsimp only at hS); obtain ⟨z1, z2, z3, z4, z5, z6, z7⟩ := hS; go_simp; (first | done | with_reducible rfl)); (try simp only [Act.put, List.setIfInBounds_toArray, List.set_cons_zero, List.set_cons_succ]))
      (try simp only [Act.put, List.setIfInBounds_toArray, List.set_cons_zero, List.set_cons_succ])
      (refine' wpSeq_take rfl _ (by rfl) ?_ ?_; rotate_left; focus (intro w' hS; (try dsimp only at hS); obtain ⟨z1, z2, z3, z4, z5, z6, z7⟩ := hS; go_simp; (first | done | with_reducible rfl)); (try simp only [Act.put, List.setIfInBounds_toArray, List.set_cons_zero, List.set_cons_succ]))
      (try simp only [Act.put, List.setIfInBounds_toArray, List.set_cons_zero, List.set_cons_succ])
      (refine' wpSeq_take rfl _ (by rfl) ?_ ?_; rotate_left; focus (intro w' hS; (try dsimp only at hS); obtain ⟨z1, z2, z3, z4, z5, z6, z7⟩ := hS; go_simp; (first | done | with_reducible rfl)); (try simp only [Act.put, List.setIfInBounds_toArray, List.set_cons_zero, List.set_cons_succ]))
      (try simp only [Act.put, List.setIfInBounds_toArray, List.set_cons_zero, List.set_cons_succ])
      (refine' wpSeq_take rfl _ (by rfl) ?_ ?_; rotate_left; focus (intro w' hS; (try dsimp only at hS); obtain ⟨z1, z2, z3, z4, z5, z6, z7⟩ := hS; go_simp; (first | done | with_reducible rfl)); (try simp only [Act.put, List.setIfInBounds_toArray, List.set_cons_zero, List.set_cons_succ]))
      (try simp only [Act.put, List.setIfInBounds_toArray, List.set_cons_zero, List.set_cons_succ])
      (refine' wpSeq_take rfl _ (by rfl) ?_ ?_; rotate_left; focus (intro w' hS; (try dsimp only at hS); obtain ⟨z1, z2, z3, z4, z5, z6, z7⟩ := hS; go_simp; (first | done | with_reducible rfl)); (try simp only [Act.put, List.setIfInBounds_toArray, List.set_cons_zero, List.set_cons_succ]))
      (try simp only [Act.put, List.setIfInBounds_toArray, List.set_cons_zero, List.set_cons_succ])
      (refine wpSeq_call rfl (by rfl) (fun K hK => ?_); go_simp; refine ((hOn.out _)).mono ?_; rintro e w3 ⟨rfl, hB3⟩; refine hK _ _ (hcells.out _ (up HBB.out.drew hB3)) ?_; clear hK K; (try simp only [Act.put, List.setIfInBounds_toArray, List.set_cons_zero, List.set_cons_succ]))
      (try simp only [Act.put, List.setIfInBounds_toArray, List.set_cons_zero, List.set_cons_succ])
      have HB3 := hid (up HBB.out.drew hB3)
      clear hB3 HBB
      (refine' wpSeq_take rfl _ (by rfl) ?_ ?_; rotate_left; focus (intro w' hS; (try dsimp only at hS); obtain ⟨z1, z2, z3, z4, z5, z6, z7⟩ := hS; go_simp; (first | done | with_reducible rfl)); (try simp only [Act.put, List.setIfInBounds_toArray, List.set_cons_zero, List.set_cons_succ]))
      (try simp only [Act.put, List.setIfInBounds_toArray, List.set_cons_zero, List.set_cons_succ])
      (refine' wpSeq_take rfl _ (by rfl) ?_ ?_; rotate_left; focus (intro w' hS; (try dsimp only at hS); obtain ⟨z1, z2, z3, z4, z5, z6, z7⟩ := hS; go_simp; (first | done | with_reducible rfl)); (try simp only [Act.put, List.setIfInBounds_toArray, List.set_cons_zero, List.set_cons_succ]))
      (try simp only [Act.put, List.setIfInBounds_toArray, List.set_cons_zero, List.set_cons_succ])
      (refine' wpSeq_take rfl _ (by rfl) ?_ ?_; rotate_left; focus (intro w' hS; (try dsimp only at hS); obtain ⟨z1, z2, z3, z4, z5, z6, z7⟩ := hS; go_simp; (first | done | with_reducible rfl)); (try simp only [Act.put, List.setIfInBounds_toArray, List.set_cons_zero, List.set_cons_succ]))
      (try simp only [Act.put, List.setIfInBounds_toArray, List.set_cons_zero, List.set_cons_succ])
      (refine' wpSeq_take rfl _ (by rfl) ?_ ?_; rotate_left; focus (intro w' hS; (try dsimp only at hS); obtain ⟨z1, z2, z3, z4, z5, z6, z7⟩ := hS; go_simp; (first | done | with_reducible rfl)); (try simp only [Act.put, List.setIfInBounds_toArray, List.set_cons_zero, List.set_cons_succ]))
      (try simp only [Act.put, List.setIfInBounds_toArray, List.set_cons_zero, List.set_cons_succ])
      (refine' wpSeq_take rfl _ (by rfl) ?_ ?_; rotate_left; focus (intro w' hS; (try dsimp only at hS); obtain ⟨z1, z2, z3, z4, z5, z6, z7⟩ := hS; go_simp; (first | done | with_reducible rfl)); (try simp only [Act.put, List.setIfInBounds_toArray, List.set_cons_zero, List.set_cons_succ]))
      (try simp only [Act.put, List.setIfInBounds_toArray, List.set_cons_zero, List.set_cons_succ])
      (refine' wpSeq_take rfl _ (by rfl) ?_ ?_; rotate_left; focus (intro w' hS; (try dsimp only at hS); obtain ⟨z1, z2, z3, z4, z5, z6, z7⟩ := hS; go_simp; (first | done | with_reducible rfl)); (try simp only [Act.put, List.setIfInBounds_toArray, List.set_cons_zero, List.set_cons_succ]))
      (try simp only [Act.put, List.setIfInBounds_toArray, List.set_cons_zero, List.set_cons_succ])
      (refine' wpSeq_take rfl _ (by rfl) ?_ ?_; rotate_left; focus (intro w' hS; (try dsimp only at hS); obtain ⟨z1, z2, z3, z4, z5, z6, z7⟩ := hS; go_simp; (first | done | with_reducible rfl)); (try simp only [Act.put, List.setIfInBounds_toArray, List.set_cons_zero, List.set_cons_succ]))
      (try simp only [Act.put, List.setIfInBounds_toArray, List.set_cons_zero, List.set_cons_succ])
      (refine' wpSeq_take rfl _ (by rfl) ?_ ?_; rotate_left; focus (intro w' hS; (try dsimp only at hS); obtain ⟨z1, z2, z3, z4, z5, z6, z7⟩ := hS; go_simp; (first | done | with_reducible rfl)); (try simp only [Act.put, List.setIfInBounds_toArray, List.set_cons_zero, List.set_cons_succ]))
      (try simp only [Act.put, List.setIfInBounds_toArray, List.set_cons_zero, List.set_cons_succ])
      (refine' wpSeq_take rfl _ (by rfl) ?_ ?_; rotate_left; focus (intro w' hS; (try dsimp only at hS); obtain ⟨z1, z2, z3, z4, z5, z6, z7⟩ := hS; go_simp; (first | done | with_reducible rfl)); (try simp only [Act.put, List.setIfInBounds_toArray, List.set_cons_zero, List.set_cons_succ]))
      (try simp only [Act.put, List.setIfInBounds_toArray, List.set_cons_zero, List.set_cons_succ])
      (refine' wpSeq_take rfl _ (by rfl) ?_ ?_; rotate_left; focus (intro w' hS; (try dsimp only at hS); obtain ⟨z1, z2, z3, z4, z5, z6, z7⟩ := hS; go_simp; (first | done | with_reducible rfl)); (try simp only [Act.put, List.setIfInBounds_toArray, List.set_cons_zero, List.set_cons_succ]))
      (try simp only [Act.put, List.setIfInBounds_toArray, List.set_cons_zero, List.set_cons_succ])
      (refine' wpSeq_take rfl _ (by rfl) ?_ ?_; rotate_left; focus (intro w' hS; (try dsimp only at hS); obtain ⟨z1, z2, z3, z4, z5, z6, z7⟩ := hS; go_simp; (first | done | with_reducible rfl)); (try simp only [Act.put, List.setIfInBounds_toArray, List.set_cons_zero, List.set_cons_succ]))
      (try simp only [Act.put, List.setIfInBounds_toArray, List.set_cons_zero, List.set_cons_succ])
      (refine wpSeq_call rfl (by rfl) (fun K hK => ?_); go_simp; refine ((hOn.out _)).mono ?_; rintro e w4 ⟨rfl, hB4⟩; refine hK _ _ (hcells.out _ (up HB3.out hB4)) ?_; clear hK K; (try simp only [Act.put, List.setIfInBounds_toArray, List.set_cons_zero, List.set_cons_succ]))
      (try simp only [Act.put, List.setIfInBounds_toArray, List.set_cons_zero, List.set_cons_succ])
      have HB4 := hid (up HB3.out hB4)
      clear hB4 HB3
      (refine wpSeq_call rfl (by rfl) (fun K hK => ?_); go_simp; refine ((hCm.out _)).mono ?_; rintro e w5 ⟨rfl, hB5⟩; refine hK _ _ (hcells.out _ (up HB4.out hB5)) ?_; clear hK K; (try simp only [Act.put, List.setIfInBounds_toArray, List.set_cons_zero, List.set_cons_succ]))
      (try simp only [Act.put, List.setIfInBounds_toArray, List.set_cons_zero, List.set_cons_succ])
      have HB5 := hid (up HB4.out hB5)
      clear hB5 HB4
      (refine' wpSeq_take rfl _ (by rfl) ?_ ?_; rotate_left; focus (intro w' hS; (try dsimp only at hS); obtain ⟨z1, z2, z3, z4, z5, z6, z7⟩ := hS; go_simp; (first | done | with_reducible rfl)); (try simp only [Act.put, List.setIfInBounds_toArray, List.set_cons_zero, List.set_cons_succ]))
      (try simp only [Act.put, List.setIfInBounds_toArray, List.set_cons_zero, List.set_cons_succ])
      refine wpSeq_nil ?_
      clear S
      have hmb : (m : Int) ≤ 4398046511104 := by have := HLN.out; omega
      clear hOn hCm hcells ho' d0 d1 d2 hnm1 hnm2 hml1 hml2 hn0
      go_wp2_with fail
      obtain ⟨d, c, r, e1, e2, e3⟩ := hDY.out
      have HST : Hid (Dyck d ∧ l.drop (n + 1) = d ++ c :: r ∧ n + 1 + d.length = m) := ⟨e2, e1, e3⟩
      clear e1 e2 e3 hDY
      go_loopw [7] (fun i wr => ∃ (j : Nat) (d : List Tok), i = .int .i64 j ∧ Hid (Dyck d ∧ l.drop j = d ++ c :: r ∧ j + d.length = m) ∧ Below w1.heap.size w1 wr) (fun i _ => m - (intOf i).toNat)
      case atStart => exact ⟨n + 1, d, by simp, HST, HB5.out⟩
      case round =>
        clear HST HB5
        obtain ⟨j, d', rfl, HST, hB⟩ := hrel
        by_cases hjm : j < m
        · have hjl : j < l.length := by omega
          obtain ⟨q1, q2, q3⟩ := HST.out
          have hstep := dyck_step q1 q2 q3 hjm
          obtain ⟨x1, x2, x3⟩ := HX.out j hjl
          obtain ⟨r1, _⟩ := bcell hB
          have z1 := (r1 _ (off + j * 3) HBL.out).trans x1
          have z2 := (r1 _ (off + j * 3 + 1) HBL.out).trans x2
          have z3 := (r1 _ (off + j * 3 + 2) HBL.out).trans x3
          have hb1 : b < wr.heap.size := Nat.lt_of_lt_of_le HBL.out hB.size
          have hO := hid (fun w => r_Opens (l[j]?.getD default) w)
          have hK := hid (fun w => r_Closes (l[j]?.getD default) w)
          rw [hstep.1] at hK
          have HS := hid hstep.2
          generalize opens (l[j]?.getD default) = oj at *
          generalize l[j]?.getD default = tj at *
          obtain ⟨kj, tj, pj⟩ := tj
          clear q1 q2 q3 hstep x1 x2 x3 HST r1
          have hj63 : (j : Int) + 1 ≤ 4398046511105 := by omega
          go_wp2_with fail
          refine (hK.out _).mono ?_
          rintro e w6 ⟨rfl, hB6⟩
          obtain ⟨r1, _⟩ := bcell hB6
          have y1 := (r1 _ (off + j * 3) hb1).trans z1
          have y2 := (r1 _ (off + j * 3 + 1) hb1).trans z2
          have y3 := (r1 _ (off + j * 3 + 2) hb1).trans z3
          have hb2 : b < w6.heap.size := Nat.lt_of_lt_of_le hb1 hB6.size
          have hBB := up hB hB6
          clear hB6 r1 z1 z2 z3 hK
          go_simp
          go_wp2_with fail
          refine (hO.out _).mono ?_
          rintro e w7 ⟨rfl, hB7⟩
          have hBB := up hBB hB7
          clear hB7 y1 y2 y3 hO
          rcases HS.out with ⟨ho, d2, g1, g2, g3⟩ | ⟨ho, k, g1, g2, g3, d2, g4, g5, g6⟩
          · have HG := hid (And.intro g1 (And.intro g2 g3))
            subst ho
            clear g1 g2 g3 HS
            go_simp
            go_wp2_with fail
            refine ⟨⟨j + 1, d2, by simp, HG, hBB⟩, ?_⟩
            simp [intOf]; omega
          · have HG := hid (And.intro g4 (And.intro g5 g6))
            have hcj := hid (hC.out (j : Int) ((k : Int), 0) g1)
            have ho' : ((oj : Int) == 0) = false := by simpa using ho
            have hkj : ¬ (k : Int) ≤ (j : Int) := by omega
            have hkm : ¬ (m : Int) ≤ (k : Int) := by omega
            have HMB := hid hmb
            have HLT := hid (And.intro g2 g3)
            have hkj2 : ¬ k ≤ j := by omega
            have hkm2 : ¬ m ≤ k := by omega
            clear g1 g4 g5 g6 HS ho hmb hj63 g2 g3 hnl3
            go_simp
            go_wp2_with fail
            refine (hcj.out _ hBB).mono ?_
            rintro e w8 ⟨rfl, hB8⟩
            have hBB := up hBB hB8
            clear hB8 hcj
            go_simp
            go_wp2_with fail
            rw [wrapS _ (by have := HMB.out; have := HLT.out; omega)]
            refine ⟨⟨k + 1, d2, by simp, HG, hBB⟩, ?_⟩
            have := HLT.out
            simp [intOf]; omega
        · go_wp2_with fail
          refine (hD.out _).mono ?_
          rintro e w6 ⟨rfl, hB6⟩
          go_simp
          go_wp2_with fail
          go_ret
          exact ⟨rfl, up hB hB6⟩
  · have her' : (er != 0) = true := by simpa using her
    go_enter Tryd.func5, Tryd.ntmps5
    go_wp2_with fail
    refine hF.out.mono ?_
    rintro e w1 ⟨bb, rfl, hbb, rfl⟩
    cases bb with
    | false =>
      clear hbb
      go_simp
      go_wp2_with fail
      refine (hD.out _).mono ?_
      rintro e w2 ⟨rfl, hB⟩
      go_simp
      go_wp2_with fail
      go_ret
      exact ⟨rfl, hB⟩
    | true =>
      clear hbb
      go_simp
      go_wp2_with fail
      refine hcl.out.mono ?_
      rintro e w2 ⟨rfl, hB⟩
      go_simp
      go_wp2_with fail
      refine (hD.out _).mono ?_
      rintro e w3 ⟨rfl, hB3⟩
      go_simp
      go_wp2_with fail
      go_ret
      exact ⟨rfl, up hB hB3⟩

end Go.Proofs.YtkeglokokleonaaDoor
