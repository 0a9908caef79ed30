/-
  Contracts of the reference for firing: One, Moved.
-/
import Derived.Test.YtbjoblkigbphhaaGreatR19b
import Derived.Test.YtbjoblkigbphhaaGreatSpec2
import Derived.Test.YtbjoblkigbphhaaGreatReg
namespace Go.Proofs.YtbjoblkigbphhaaGreat
open Go.RowKit


set_option maxRecDepth 100000 in
set_option maxHeartbeats 2000000 in
theorem r18_Moved' (g : G) (gv : Value) (N : Nat) (hN1 : (N : Int) ≤ g.n) (hN2 : g.n ≤ (N : Int)) (d s : Nat → Int) (dv sv : Value) (w : World) (hg : GrR w gv g) (hk : Gok g)
    (hd : IntsR w dv (vecOf N d)) (hs : IntsR w sv (vecOf N s)) (hdb : bdd d 1000000000000) (hsb : bdd s 1048576) :
    Calls Tryz.prog 27 #[gv, dv, sv] w fun e w' => ∃ b cap, e = .returned (.slice (some ⟨b, 0, none⟩) N cap) ∧
      w'.ownsRow w.heap.size 3 1 (.slice (some ⟨b, 0, none⟩) N cap) N ((vecOf N (movedV g d s)).map (Value.int .i64)) ∧ Below w.heap.size w w' := by
  have hg' := hg
  obtain ⟨ev, rfl, _⟩ := hg'
  obtain ⟨hn1, hn2⟩ := hk.n
  obtain ⟨a, cap, rfl, _, _, _, hc⟩ := hd
  obtain ⟨a', cap', rfl, _, _, _, hc'⟩ := hs
  have hW : Below w.heap.size w (w.alloc (.cells #[.int .i64 g.n, ev] 24)) := by go_grown
  have hld := vecOf_len N d
  have hls := vecOf_len N s
  rw [hld, hls]
  obtain ⟨b, off, rfl, hb, _⟩ := hc.int (by omega)
  obtain ⟨b', off', rfl, hb', hcs⟩ := hc'.int (by omega)
  have hcw := hc.below hW
  have HLD := hid hld
  clear hld hls
  go_enter Tryz.func27, Tryz.ntmps27
  go_wp2_with (at_builtin; go_loud (refine wpList_clone _ rfl _ _ 26 rfl 3 Tryz.underDiv Tryz.infoInt (w.heap.size + 1) (by simp) b off cap (vecOf N d) hcw (by rw [HLD.out]; omega) rfl (by rw [HLD.out]; rfl) ?_); intro v' w1 hown hB1 _)
  obtain ⟨bo, co, rfl, hbo1, hbo2⟩ := owns_some hown (by rw [HLD.out]; omega)
  rw [HLD.out] at hown ⊢
  have hB2 : Below (w.heap.size + 1) (w.alloc (.cells #[.int .i64 g.n, ev] 24)) w1 := by
    have h := hB1; simp only [World.size_alloc] at h; exact h
  rw [← mvSt_start g d s] at hown
  have HN : Hid (g.n.toNat = N) := by show _ = _; omega
  clear hB1
  go_loopw [8] (fun i wr => ∃ v : Nat, v ≤ N ∧ i = .int .i64 v ∧
      wr.ownsRow (w.heap.size + 1) 3 1 (.slice (some ⟨bo, 0, none⟩) N co) N ((vecOf N (mvSt g d s v 0)).map (Value.int .i64)) ∧
      Below (w.heap.size + 1) (w.alloc (.cells #[.int .i64 g.n, ev] 24)) wr)
    (fun i _ => N - (intOf i).toNat)
  case atStart => exact ⟨0, Nat.zero_le _, rfl, hown, hB2⟩
  case round =>
    clear hown hB2
    obtain ⟨v, hv, rfl, hown, hB⟩ := hrel
    obtain ⟨r1, r2⟩ := bcellB hB
    by_cases hvt : v < N
    · have hvt' : (v : Int) < g.n := by omega
      go_wp2
      obtain ⟨wo, hwo⟩ : ∃ wo : World, wo = wr := ⟨_, rfl⟩
      rw [← hwo] at hB r1 r2 hown ⊢
      clear hwo wr
      go_loopw [9] (fun i wr => ∃ u : Nat, u ≤ N ∧ i = .int .i64 u ∧
          wr.ownsRow (w.heap.size + 1) 3 1 (.slice (some ⟨bo, 0, none⟩) N co) N ((vecOf N (mvSt g d s v u)).map (Value.int .i64)) ∧
          Below (w.heap.size + 1) (w.alloc (.cells #[.int .i64 g.n, ev] 24)) wr)
        (fun i _ => N - (intOf i).toNat)
      case atStart => exact ⟨0, Nat.zero_le _, rfl, hown, hB⟩
      case round =>
        clear hown r1 r2 hB
        obtain ⟨u, hu, rfl, hown, hB⟩ := hrel
        obtain ⟨r1, r2⟩ := bcellB hB
        have hBw : Below w.heap.size w wr := hW.trans (hB.mono (by omega))
        have hgr := hid (hg.below hBw)
        have hs : w.heap.size + 1 ≤ wr.heap.size := by have := hB.size; simpa using this
        by_cases hut : u < N
        · have hut' : (u : Int) < g.n := by omega
          by_cases huv : v = u
          · have HS := hid (mvSt_same g d s N v u huv)
            have hne : ((v : Int) != (u : Int)) = false := by simp [huv]
            clear huv
            go_wp2
            go_roundw
            case rel => exact ⟨u + 1, by omega, by go_num, by rw [HS.out]; exact hown, hB⟩
            case measure => simp [intOf]; omega
          · have hne : ((v : Int) != (u : Int)) = true := by simp; omega
            have HS := hid (mvSt_step g d s N v u)
            have HM : Hid (mv g s v u = btw g v u * (s u - s v)) := by show _ = _; unfold mv; rw [if_pos huv]
            have hx := hid (vecOf_get N (mvSt g d s v u) v hvt)
            have h1 : -1500000000000 ≤ mvSt g d s v u v ∧ mvSt g d s v u v ≤ 1500000000000 := by
              have := mvSum_bd hk hsb v u (by omega)
              have := hdb v
              unfold mvSt; rw [if_neg (by omega), if_pos rfl]; omega
            have h2 := mv_bd hk hsb v u
            have h3 := hsb u
            have h4 := hsb v
            rw [HM.out] at h2
            have c1 := owns_int hown v hvt
            rw [hx.out] at c1
            have f1 := hown.frozenAt v
            have c2 : wr.cell? ⟨b', off' + u, none⟩ = some (.int .i64 (s u)) := by
              rw [hBw.cell (p := ⟨b', off' + u, none⟩) hb', hcs u (by rw [vecOf_len]; omega), vecOf_get _ _ _ hut]
            have c3 : wr.cell? ⟨b', off' + v, none⟩ = some (.int .i64 (s v)) := by
              rw [hBw.cell (p := ⟨b', off' + v, none⟩) hb', hcs v (by rw [vecOf_len]; omega), vecOf_get _ _ _ hvt]
            have hbr : b' < wr.heap.size := by omega
            have hbor := (owns_lt hown).2
            have hs0 : w.heap.size < wr.heap.size := by omega
            have e1 : wr.cell? ⟨w.heap.size, 0, none⟩ = some (.int .i64 g.n) := by rw [r1 _ _ (by omega)]; simp
            have e2 : wr.cell? ⟨w.heap.size, 1, none⟩ = some ev := by rw [r1 _ _ (by omega)]; simp
            generalize mvSt g d s v u v = X at *
            generalize s u = su at *
            generalize s v = sv at *
            clear r1 r2 hx
            have k1 : (0 : Int) ≤ (v : Int) := by omega
            have k2 : (0 : Int) ≤ (u : Int) := by omega
            have k3 : (v : Int) < (N : Int) := by omega
            have k4 : (u : Int) < (N : Int) := by omega
            have w1' : IntKind.i64.wrap (su - sv) = su - sv := IntWalk.i64_in _ (by omega)
            have w2' : IntKind.i64.wrap (btw g v u * (su - sv)) = btw g v u * (su - sv) := IntWalk.i64_in _ (by omega)
            have w3' : IntKind.i64.wrap (X + btw g v u * (su - sv)) = X + btw g v u * (su - sv) := IntWalk.i64_in _ (by omega)
            go_wp2
            let S : World → Prop := fun w' => w'.cell? ⟨w.heap.size, 0, none⟩ = some (.int .i64 g.n) ∧ w'.cell? ⟨w.heap.size, 1, none⟩ = some ev ∧ w'.cell? ⟨b', off' + u, none⟩ = some (.int .i64 su) ∧ w'.cell? ⟨b', off' + v, none⟩ = some (.int .i64 sv) ∧ w'.cell? ⟨bo, v, none⟩ = some (.int .i64 X)
            (refine wp_region_text 19 [0,1,2,3,4,5,6,8,9,10,11,12,13,14,15,16,7,17,18] S (by kernel_rfl) (by kernel_rfl) (by intro _ _ d _ _ h; cases d <;> exact h) ?hS ?_; rotate_left; simp only [List.map_cons, List.map_nil, List.getD_cons_zero, List.getD_cons_succ, List.drop_succ_cons, List.drop_zero])
            case hS => exact ⟨e1, e2, c2, c3, c1⟩
            (repeat ((refine' wpSeq_take rfl _ (by rfl) ?_ ?_; rotate_left; focus (intro w' hS; (try dsimp only at hS); obtain ⟨s1, s2, s3, s4, s5⟩ := hS; go_simp; (first | done | with_reducible rfl)); (try simp only [Act.put, List.setIfInBounds_toArray, List.set_cons_zero, List.set_cons_succ])); (try simp only [Act.put, List.setIfInBounds_toArray, List.set_cons_zero, List.set_cons_succ])))
            (refine wpSeq_call rfl (by rfl) (fun K hK => ?_); go_simp; refine (r08_Between g _ _ _ _ (hgr.out.below (below_dN (Below.refl _ _) 1))).mono ?_; rintro e w1 ⟨rfl, hB1⟩; refine hK _ _ ((by obtain ⟨r3, r4⟩ := bcell hB1; exact ⟨(r3 _ _ hs0).trans e1, (r3 _ _ hs0).trans e2, (r3 _ _ hbr).trans c2, (r3 _ _ hbr).trans c3, (r3 _ _ hbor).trans c1⟩)) ?_; clear hK K; (try simp only [Act.put, List.setIfInBounds_toArray, List.set_cons_zero, List.set_cons_succ]))
            (repeat ((refine' wpSeq_take rfl _ (by rfl) ?_ ?_; rotate_left; focus (intro w' hS; (try dsimp only at hS); obtain ⟨s1, s2, s3, s4, s5⟩ := hS; go_simp; (first | done | with_reducible rfl)); (try simp only [Act.put, List.setIfInBounds_toArray, List.set_cons_zero, List.set_cons_succ])); (try simp only [Act.put, List.setIfInBounds_toArray, List.set_cons_zero, List.set_cons_succ])))
            refine wpSeq_nil ?_
            obtain ⟨r3, r4⟩ := bcell hB1
            have c1' := (r3 _ _ hbor).trans c1
            have f1' := (r4 _ _ hbor).trans f1
            have hown1 := owns_below (owns_dN hown 1) hB1
            have hB2 : Below (w.heap.size + 1) (w.alloc (.cells #[.int .i64 g.n, ev] 24)) w1 := hB.trans ((below_dN (Below.refl _ wr) 1).trans (hB1.mono (by show _ ≤ wr.heap.size; omega)))
            clear r3 r4 hown hB hB1 c1 f1 c2 c3 e1 e2 S
            go_wp2
            go_roundw
            case rel =>
              refine ⟨u + 1, by omega, by go_num, ?_, hB2.setCell (by simp; omega) _⟩
              rw [HS.out, HM.out]
              exact owns_set hown1 v _
            case measure => simp [intOf]; omega
        · have hut' : ¬ (u : Int) < g.n := by omega
          obtain rfl : u = N := by omega
          have hnx := mvSt_next g d s u v
          rw [HN.out] at hnx
          rw [hnx] at hown
          go_wp2
          go_roundw
          case rel => exact ⟨v + 1, by omega, by go_num, hown, hB⟩
          case measure => simp [intOf]; omega
    · have hvt' : ¬ (v : Int) < g.n := by omega
      obtain rfl : v = N := by omega
      rw [mvSt_end g d s _ _ (Nat.le_refl _)] at hown
      go_wp2
      go_ret
      exact ⟨_, _, rfl, owns_base hown (by omega), hW.trans (hB.mono (by omega))⟩

theorem r18_Moved (g : G) (gv : Value) (d s : Nat → Int) (dv sv : Value) (w : World) (hg : GrR w gv g) (hk : Gok g)
    (hd : IntsR w dv (vecOf g.n.toNat d)) (hs : IntsR w sv (vecOf g.n.toNat s)) (hdb : bdd d 1000000000000) (hsb : bdd s 1048576) :
    Calls Tryz.prog 27 #[gv, dv, sv] w fun e w' => ∃ b cap, e = .returned (.slice (some ⟨b, 0, none⟩) g.n.toNat cap) ∧
      w'.ownsRow w.heap.size 3 1 (.slice (some ⟨b, 0, none⟩) g.n.toNat cap) g.n.toNat ((vecOf g.n.toNat (movedV g d s)).map (Value.int .i64)) ∧ Below w.heap.size w w' :=
  r18_Moved' g gv g.n.toNat (by have := hk.n; omega) (by have := hk.n; omega) d s dv sv w hg hk hd hs hdb hsb

end Go.Proofs.YtbjoblkigbphhaaGreat
