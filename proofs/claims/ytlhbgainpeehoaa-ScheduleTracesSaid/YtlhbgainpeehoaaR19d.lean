/-
  Contracts of the references: Table, Rows.
-/
import Derived.Test.YtlhbgainpeehoaaR18
import Derived.Test.YtlhbgainpeehoaaSpec6
namespace Go.Proofs.Ytlhbgainpeehoaa
open Go.RowKit

theorem Try.underMat : Try.prog.underlying 111 = some (.slice 25) := by kernel_rfl
theorem Try.infoRow : (Try.prog.info? 25).map (fun i => (i.zero, i.size, i.bytes)) = some (some (.slice none 0 0), 1, 24) := by kernel_rfl

/-- A matrix is handed back; all that was there before is as it was. -/
def RetM (T1 T0 : TypeId) (w : World) (N : Nat) (f : Nat → Nat → Int) (e : Ending) (w' : World) : Prop := ∃ v bs, e = .returned v ∧ OwnM T1 T0 w' w.heap.size v N N bs f ∧ Below w.heap.size w w'

set_option maxRecDepth 100000 in
set_option maxHeartbeats 1000000 in
theorem r08_Table (n : Int) (N : Nat) (h1 : n ≤ (N : Int)) (h2 : (N : Int) ≤ n) (h3 : n ≤ 100) (w : World) :
    Calls Try.prog 105 #[.int .i64 n] w (RetM 25 3 w N fun _ _ => 0) := by
  have HN : Hid (n.toNat = N) := by show _ = _; omega
  obtain ⟨i0, hi, hz0, hz1, hz2⟩ := info_parts Try.infoRow
  go_enter Try.func105, Try.ntmps105
  go_wp2
  go_loopw [3, 4] (fun t i wr => ∃ (k : Nat) (bs : Nat → Nat), k ≤ N ∧ i = .int .i64 k ∧ OwnM 25 3 wr w.heap.size t N k bs (fun _ _ => 0) ∧ Below w.heap.size w wr)
    (fun _ i _ => N - (intOf i).toNat)
  case atStart => exact ⟨0, fun _ => 0, Nat.zero_le _, rfl, OwnM.zero _ _ _ _ _ _ _, Below.refl _ _⟩
  case round =>
    obtain ⟨k, bs, hk, rfl, hM, hB⟩ := hrel
    have hs := hB.size
    by_cases hlt : k < N
    · have hlt' : (k : Int) < n := by omega
      have ho := hM.outer.lt
      go_wp2_with (first
        | (at_make; refine wpList_mk1 _ (Value.int .i64) 0 rfl _ _ 25 rfl w.heap.size 3 8 Try.underInts Try.infoInt rfl n rfl rfl (by omega) (by omega) (by omega) wr.heap.size rfl (by omega) ?_; intro w1 hrow hB1; rw [HN.out] at hrow ⊢; have hs1 := hB1.size)
        | (at_builtin; refine wpList_append_own _ rfl (.tmp 10) (.tmp 13) 111 rfl w.heap.size 25 i0 (.slice none 0 0) 1 24 Try.underMat hi hz0 hz1 hz2 rfl (by decide) _ k _ rfl ((hM.below hB1).outer.alloc _) ⟨w1.heap.size, 0, none⟩ 1 1 [.slice (some ⟨wr.heap.size, 0, none⟩) N N] rfl rfl (cell_one_new _ _ _) (by simp [Value.oneCell']) (by unfold maxLen; omega) (by omega) (by simp; omega) ?_; intro v' w2 hown2 hgr2 _))
      go_roundw
      case rel =>
        have hM1 := hM.below hB1
        have hbk : ∀ i, i < k → bs i ≠ wr.heap.size := fun i hi => by have := hM.lt i hi; omega
        refine ⟨k + 1, _, by omega, by go_num, hM1.snoc (b := wr.heap.size) ?_ hbk hown2 ?_, ?_⟩
        · rw [vecOf_zero] at hrow
          refine (hrow.alloc _).kept hgr2 (.inr ?_)
          intro e
          have := ho _ e.symm
          dsimp only at this
          omega
        · intro i hi
          exact ((hM1.row i hi).alloc _).kept hgr2 (.inr fun e => hM.blk (by decide) i hi e.symm)
        · exact (((hB.trans (hB1.mono hs)).alloc (by omega) _).grown hgr2 (by simp; omega) (fun q hq => (ho q hq).1))
      case measure => simp [intOf]; omega
    · have hlt' : ¬ (k : Int) < n := by omega
      obtain rfl : k = N := by omega
      go_wp2
      go_ret
      exact ⟨_, _, rfl, hM, hB⟩

def rowSt (g : G) (v w i j : Nat) : Int := if i < v ∨ i = v ∧ j < w then rowsF g i j else 0

set_option maxRecDepth 100000 in
set_option maxHeartbeats 2000000 in
theorem r19_Rows (g : G) (gv : Value) (N : Nat) (hN1 : (N : Int) ≤ g.n) (hN2 : g.n ≤ (N : Int)) (w : World) (hg : GrR w gv g) (hk : Gok g) :
    Calls Try.prog 83 #[gv] w (RetM 25 3 w N (rowsF g)) := by
  have hg' := hg
  obtain ⟨ev, rfl, _⟩ := hg'
  obtain ⟨hn1, hn2⟩ := hk.n
  have hW : Below w.heap.size w (w.alloc (.cells #[.int .i64 g.n, ev] 24)) := by go_grown
  go_enter Try.func83, Try.ntmps83
  go_wp2_with (go_at_call 105; refine (r08_Table _ N (by omega) (by omega) (by omega) _).mono ?_; rintro e w1 ⟨t, bs, rfl, hM, hB1⟩; obtain ⟨go, co, rfl, _, _⟩ := owns_some hM.outer (by omega))
  have hM0 : OwnM 25 3 w1 (w.heap.size + 1) (.slice (some ⟨go, 0, none⟩) N co) N N bs (rowSt g 0 0) := by
    have h := hM.congr (rowSt g 0 0) (fun i j _ _ => by unfold rowSt; rw [if_neg (by omega)])
    exact h.rebase (by simp)
  have hB2 : Below (w.heap.size + 1) (w.alloc (.cells #[.int .i64 g.n, ev] 24)) w1 := by
    have h := hB1; simp only [World.size_alloc] at h; exact h
  clear hM hB1
  go_loopw [4] (fun i wr => ∃ v : Nat, v ≤ N ∧ i = .int .i64 v ∧ OwnM 25 3 wr (w.heap.size + 1) (.slice (some ⟨go, 0, none⟩) N co) N N bs (rowSt g v 0) ∧
      Below (w.heap.size + 1) (w.alloc (.cells #[.int .i64 g.n, ev] 24)) wr)
    (fun i _ => N - (intOf i).toNat)
  case atStart => exact ⟨0, Nat.zero_le _, rfl, hM0, hB2⟩
  case round =>
    clear hM0 hB2
    obtain ⟨v, hv, rfl, hM, hB⟩ := hrel
    obtain ⟨r1, r2⟩ := bcellB hB
    by_cases hvt : v < N
    · have hvt' : (v : Int) < g.n := by omega
      go_wp2
      obtain ⟨wo, hwo⟩ : ∃ wo : World, wo = wr := ⟨_, rfl⟩
      rw [← hwo] at hB r1 r2 hM ⊢
      clear hwo wr
      go_loopw [5] (fun i wr => ∃ u : Nat, u ≤ N ∧ i = .int .i64 u ∧ OwnM 25 3 wr (w.heap.size + 1) (.slice (some ⟨go, 0, none⟩) N co) N N bs (rowSt g v u) ∧
          Below (w.heap.size + 1) (w.alloc (.cells #[.int .i64 g.n, ev] 24)) wr)
        (fun i _ => N - (intOf i).toNat)
      case atStart => exact ⟨0, Nat.zero_le _, rfl, hM, hB⟩
      case round =>
        clear hM r1 r2 hB
        obtain ⟨u, hu, rfl, hM, hB⟩ := hrel
        obtain ⟨r1, r2⟩ := bcellB hB
        have hBw : Below w.heap.size w wr := hW.trans (hB.mono (by omega))
        have hgr := hid (hg.below hBw)
        have hs : w.heap.size + 1 ≤ wr.heap.size := by have := hB.size; simpa using this
        by_cases hut : u < N
        · have hut' : (u : Int) < g.n := by omega
          by_cases huv : v = u
          · have hM2 := hM.congr (rowSt g v (u + 1)) (fun i j _ _ => by
              unfold rowSt
              by_cases h1 : i < v ∨ i = v ∧ j < u
              · rw [if_pos h1, if_pos (by omega)]
              · rw [if_neg h1]
                by_cases h2 : i = v ∧ j = u
                · have hz : rowsF g i j = 0 := by unfold rowsF; rw [if_neg (by omega)]
                  rw [if_pos (by omega), hz]
                · rw [if_neg (by omega)])
            have hne : ((v : Int) != (u : Int)) = false := by simp [huv]
            clear huv
            go_wp2
            go_roundw
            case rel => exact ⟨u + 1, by omega, by go_num, hM2, hB⟩
            case measure => simp [intOf]; omega
          · have hne : ((v : Int) != (u : Int)) = true := by simp; omega
            have hs0 : w.heap.size < wr.heap.size := by omega
            have c1 := hM.at v hvt
            have hgo := (owns_lt hM.outer).2
            have hbv := hM.lt v hvt
            have c2 := hM.cell v u hvt hut
            have f2 := hM.frozen v u hvt
            have e1 : wr.cell? ⟨w.heap.size, 0, none⟩ = some (.int .i64 g.n) := by rw [r1 _ _ (by omega)]; simp
            have e2 : wr.cell? ⟨w.heap.size, 1, none⟩ = some ev := by rw [r1 _ _ (by omega)]; simp
            generalize hbvv : bs v = bv at *
            have HBV := hid hbvv
            have hbv2 := hbv.2
            clear r1 r2 hbvv
            have k1 : (0 : Int) ≤ (v : Int) := by omega
            have k2 : (0 : Int) ≤ (u : Int) := by omega
            have k3 : (v : Int) < (N : Int) := by omega
            have k4 : (u : Int) < (N : Int) := by omega
            go_wp2
            let S : World → Prop := fun w' => w'.cell? ⟨w.heap.size, 0, none⟩ = some (.int .i64 g.n) ∧ w'.cell? ⟨w.heap.size, 1, none⟩ = some ev ∧ w'.cell? ⟨go, v, none⟩ = some (.slice (some ⟨bv, 0, none⟩) N N)
            (refine wp_region_text 9 [0,1,2,3,4,5,6,7,8] S (by kernel_rfl) (by kernel_rfl) (by intro _ _ d _ _ h; cases d <;> exact h) ?hS ?_; rotate_left; simp only [List.map_cons, List.map_nil, List.getD_cons_zero, List.getD_cons_succ, List.drop_succ_cons, List.drop_zero])
            case hS => exact ⟨e1, e2, c1⟩
            (repeat (refine' wpSeq_take rfl _ (by rfl) ?_ ?_; rotate_left; focus (intro w' hS; (try dsimp only at hS); obtain ⟨s1, s2, s3⟩ := hS; go_simp; (first | done | with_reducible rfl)); (try simp only [Act.put, List.setIfInBounds_toArray, List.set_cons_zero, List.set_cons_succ])))
            (refine wpSeq_call rfl (by rfl) (fun K hK => ?_); go_simp; refine (r08_Between g _ _ _ _ (hgr.out.below (below_dN (Below.refl _ _) 1))).mono ?_; rintro e w1 ⟨rfl, hB1⟩; refine hK _ _ ((by obtain ⟨r3, r4⟩ := bcell hB1; exact ⟨(r3 _ _ hs0).trans e1, (r3 _ _ hs0).trans e2, (r3 _ _ hgo).trans c1⟩)) ?_; clear hK K; (try simp only [Act.put, List.setIfInBounds_toArray, List.set_cons_zero, List.set_cons_succ]))
            refine wpSeq_nil ?_
            obtain ⟨r3, r4⟩ := bcell hB1
            have c2' := (r3 _ _ hbv2).trans c2
            have f2' := (r4 _ _ hbv2).trans f2
            have hM1 := (hM.below (below_dN (Below.refl _ wr) 1)).below hB1
            have hB2 : Below (w.heap.size + 1) (w.alloc (.cells #[.int .i64 g.n, ev] 24)) w1 := hB.trans ((below_dN (Below.refl _ wr) 1).trans (hB1.mono (by show _ ≤ wr.heap.size; omega)))
            clear r3 r4 hM hB hB1 c1 f2 c2 e1 e2 S
            go_wp2
            go_roundw
            case rel =>
              refine ⟨u + 1, by omega, by go_num, ?_, hB2.setCell (by simp; omega) _⟩
              have hM2 := hM1.set (by decide) v u hvt (btw g v u)
              rw [HBV.out] at hM2
              refine hM2.congr (rowSt g v (u + 1)) (fun i j _ _ => ?_)
              unfold rowSt
              by_cases h2 : i = v ∧ j = u
              · obtain ⟨rfl, rfl⟩ := h2
                have hz : rowsF g i j = btw g i j := by unfold rowsF; rw [if_pos huv]
                rw [if_pos ⟨rfl, rfl⟩, if_pos (by omega), hz]
              · rw [if_neg h2]
                by_cases h1 : i < v ∨ i = v ∧ j < u
                · rw [if_pos h1, if_pos (by omega)]
                · rw [if_neg h1, if_neg (by omega)]
            case measure => simp [intOf]; omega
        · have hut' : ¬ (u : Int) < g.n := by omega
          obtain rfl : u = N := by omega
          have hM2 := hM.congr (rowSt g (v + 1) 0) (fun i j hi hj => by
            unfold rowSt
            by_cases h1 : i < v ∨ i = v ∧ j < u
            · rw [if_pos h1, if_pos (by omega)]
            · rw [if_neg h1, if_neg (by omega)])
          go_wp2
          go_roundw
          case rel => exact ⟨v + 1, by omega, by go_num, hM2, hB⟩
          case measure => simp [intOf]; omega
    · have hvt' : ¬ (v : Int) < g.n := by omega
      obtain rfl : v = N := by omega
      have hM2 := hM.congr (rowsF g) (fun i j hi hj => by unfold rowSt; rw [if_pos (by omega)])
      go_wp2
      go_ret
      exact ⟨_, _, rfl, hM2.rebase (by omega), hW.trans (hB.mono (by omega))⟩

end Go.Proofs.Ytlhbgainpeehoaa
