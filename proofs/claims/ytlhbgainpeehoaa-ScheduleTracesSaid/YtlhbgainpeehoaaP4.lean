/-
  Contracts of the program's connect: parts, Components, Connected.
-/
import Derived.Test.YtlhbgainpeehoaaP3
import Derived.Test.YtlhbgainpeehoaaSpec9
namespace Go.Proofs.Ytlhbgainpeehoaa
open Go.RowKit Go.Maps

theorem Try.underIntT : Try.prog.underlying 3 = some (.int .i64) := by kernel_rfl
theorem Try.underPlace : Try.prog.underlying 184 = some (.map 3 3) := by kernel_rfl
theorem Try.lawInt : Keyed Try.prog 3 := int_keyed Try.underIntT
theorem Try.zeroInt (w : World) : (zeroValue 3).run Try.prog w = .ok (.int .i64 0) w := by kernel_rfl

/-- A slice of m elements is handed back. -/
def RetLen (w : World) (m : Nat) (e : Ending) (w' : World) : Prop := Below w.heap.size w w' ∧ ∃ a c, e = .returned (.slice a m c)

set_option maxRecDepth 100000 in
set_option maxHeartbeats 2000000 in
theorem p_parts (F : Nat → Nat) (hF : ∀ v, F v ≤ v) (b N : Nat) (hN : N ≤ 12) (w : World) (hb : Blk w b (fArr F) 180) :
    Calls Try.prog 129 #[.pointer (some ⟨b, 0, none⟩), .int .i64 N] w (RetLen w (cr F N)) := by
  have hmm := @run_makeMap Try.prog
  have hblt := hb.lt
  obtain ⟨i0, hi, hz0, hz1, hz2⟩ := info_parts Try.infoRow
  obtain ⟨i1, hj, hy0, hy1, hy2⟩ := info_parts Try.infoInt
  go_enter Try.func129, Try.ntmps129
  go_wp2
  go_loopw [5, 11] (fun t i wr => ∃ (k : Nat) (rv : Nat → Value) (xs : Nat → List Int), k ≤ N ∧ i = .int .i64 k ∧ OwnR 25 3 wr (w.heap.size + 1) t (cr F k) rv xs ∧ (∀ i, i < cr F k → (xs i).length ≤ k) ∧
      wr.ownsMap Try.prog 3 (plainElem Try.prog 3) w.heap.size k (plD F k) ∧ Below w.heap.size w wr)
    (fun _ i _ => N - (intOf i).toNat)
  case atStart => exact ⟨0, fun _ => .slice none 0 0, fun _ => [], Nat.zero_le _, rfl, OwnR.zero _ _ _ _ _ _, fun i h => by simp [cr] at h, World.ownsMap_made _ _ _ _, (Below.refl _ _).alloc (Nat.le_refl _) _⟩
  case round =>
    obtain ⟨k, rv, xs, hk, rfl, hR, hxs, hown, hB⟩ := hrel
    obtain ⟨ao, co, rfl⟩ := owns_slice hR.outer
    by_cases hlt : k < N
    · have hbr := hb.below hB
      have hkk := hid (p_root F hF b k (by omega) wr hbr)
      go_upto_if 19 with (go_at_call 132; refine hkk.out.mono ?_; rintro e w1 ⟨rfl, rfl⟩)
      go_cut [5] (fun t wx => ∃ (rv : Nat → Value) (xs : Nat → List Int), OwnR 25 3 wx (w.heap.size + 1) t (cr F (k + 1)) rv xs ∧ (∀ i, i < cr F (k + 1) → (xs i).length ≤ k) ∧
        wx.ownsMap Try.prog 3 (plainElem Try.prog 3) w.heap.size (k + 1) (plD F (k + 1)) ∧ Below w.heap.size w wx)
      case first =>
        have hcr := cr_le F k
        by_cases hfk : F k = k
        · have hrt : Hid (root F k = k) := root_fix hfk
          have hbo : ∀ q, (Value.slice ao (cr F k) co).ownBlock = some q → w.heap.size + 1 ≤ q := fun q hq => (hR.outer.lt q hq).1
          have hgo1 : ∀ w1, wr.grownBy w1 (some w.heap.size) → OwnR 25 3 w1 (w.heap.size + 1) (.slice ao (cr F k) co) (cr F k) rv xs := fun w1 hg => by
            refine hR.kept hg (.inr fun e => ?_) (fun i hi => .inr fun e => ?_)
            · have := hbo _ e; omega
            · have := ((hR.row i hi).lt _ e).1; omega
          have heq : ((root F k : Int) == (k : Int)) = true := by rw [hrt.out]; simp
          have hwl := hown.lt
          go_wp2_with (first
            | (at_mapUpdate; refine wpList_mapUpdate_own _ rfl _ _ _ 184 rfl 3 3 Try.lawInt Try.underPlace _ w.heap.size k _ rfl hown (by unfold maxLen; omega) _ _ _ rfl rfl (keyOf_int_mk Try.underIntT (WalkArith.wf_i64 (by omega))) _ [] (plainElem_int Try.underIntT (WalkArith.wf_i64 (by omega))) ?_; intro w1 hown1 hgrow1; have hR1 := hgo1 w1 hgrow1; have hs1 := hgrow1.size)
            | (at_builtin; refine wpList_append_own _ rfl (.tmp 24) (.tmp 25) 111 rfl (w.heap.size + 1) 25 i0 (.slice none 0 0) 1 24 Try.underMat hi hz0 hz1 hz2 rfl (by decide) _ (cr F k) _ rfl (hR1.outer.alloc _) ⟨w1.heap.size, 0, none⟩ 1 1 [.slice none 0 0] rfl rfl (cell_one_new _ _ _) (by simp [Value.oneCell']) (by unfold maxLen; omega) (by omega) (by simp; omega) ?_; intro v' w2 hown2 hgr2 _))
          go_meet
          have hsB := hB.size
          have hs2 := hgr2.size
          simp only [World.size_alloc] at hs2
          rw [cr_yes hfk, plD_yes hfk]
          refine ⟨_, _, (hR1.below ((Below.refl _ _).alloc (Nat.le_refl _) _)).snoc hgr2 (by decide) (by omega) hown2, fun i hi => ?_, (hown1.alloc _).kept hgr2 (fun e => ?_), ?_⟩
          · split
            · rename_i h; exact hxs i h
            · simp
          · have := hbo _ e.symm; omega
          · exact ((hB.grown hgrow1 hsB (fun j hj => by cases hj; exact Nat.le_refl _)).alloc (by omega) _).grown hgr2 (by simp; omega) (fun q hq => by have := hbo q hq; omega)
        · have hlt2 : F k < k := by have := hF k; omega
          have hrk : root F k < k := by
            rw [root_step hF]
            have := root_le hF (F k)
            omega
          have heq : ((root F k : Int) == (k : Int)) = false := by simp; omega
          go_wp2
          go_meet
          rw [cr_no hfk, plD_no hfk]
          exact ⟨rv, xs, hR, hxs, hown.mono (Nat.le_succ _), hB⟩
      case rest =>
        obtain ⟨rv, xs, hR, hxs, hown, hB⟩ := hcut
        obtain ⟨W1, rfl⟩ : ∃ W : World, W = wc := ⟨_, rfl⟩
        obtain ⟨r, hr⟩ : ∃ r, r = root F k := ⟨_, rfl⟩
        rw [← hr]
        have hrF : F r = r := by rw [hr]; exact root_root hF k
        have hrk : r ≤ k := by rw [hr]; exact root_le hF k
        have hcm : cr F r < cr F (k + 1) := cr_lt F r (k + 1) (by omega) hrF
        have hm12 := cr_le F (k + 1)
        obtain ⟨go, gc, hgo⟩ := owns_some hR.outer (by omega)
        have hlook : Hid (∀ w', w'.ownsMap Try.prog 3 (plainElem Try.prog 3) w.heap.size (k + 1) (plD F (k + 1)) → (Instr.lookup 184 (.map (some w.heap.size)) (.int .i64 r) false).run Try.prog w' = .ok (.int .i64 (cr F r)) w') := fun w' h => by
          obtain ⟨c, hrun, hat, _⟩ := h.lookup_int Try.lawInt Try.underPlace Try.underIntT (Try.zeroInt _) (keyOf_int_mk Try.underIntT (WalkArith.wf_i64 (n := (r : Int)) (by omega)))
          rw [plD_at F r hrF (by omega) (k + 1) (by omega)] at hat
          simp at hat
          rw [hat]
          exact hrun
        have hrow := hR.row _ hcm
        have hx12 := hxs _ hcm
        obtain ⟨ar, cc, hrv⟩ := owns_slice hrow
        generalize cr F r = c at *
        generalize hmm' : cr F (k + 1) = m at *
        obtain ⟨rfl, hgo1, hgo2⟩ := hgo
        have hcell : W1.cell? ⟨go, c, none⟩ = some (.slice ar (xs c).length cc) := by rw [hR.outer.cellAt c (by omega)]; simp [hcm, hrv]
        have hfr : W1.frozen? ⟨go, c, none⟩ = false := hR.outer.frozenAt c
        have hcm' : (c : Int) < (m : Int) := by omega
        have hc0 : (0 : Int) ≤ (c : Int) := by omega
        have hl0 := hlook.out W1 hown
        have HR := hid hR
        have HX := hid hxs
        have HROW := hid hrow
        have HB := hid hB
        have HO := hid hown
        clear hR hxs hrow hB
        go_upto_region 10 with fail
        let S : World → Prop := fun w' => w'.ownsMap Try.prog 3 (plainElem Try.prog 3) w.heap.size (k + 1) (plD F (k + 1)) ∧ w'.cell? ⟨go, c, none⟩ = some (.slice ar (xs c).length cc)
        (refine wp_region_text 13 [0,1,2,3,4,5,6,7,8,9,10,11,12] S (by kernel_rfl) (by kernel_rfl) (by intro _ _ d _ _ h; cases d <;> exact h) ?hS ?_; rotate_left; simp only [List.map_cons, List.map_nil, List.getD_cons_zero, List.getD_cons_succ, List.drop_succ_cons, List.drop_zero])
        case hS => exact ⟨hown, hcell⟩
        (refine' wpSeq_take rfl _ (by rfl) ?_ ?_; rotate_left; focus (intro w' hS; (try dsimp only at hS); obtain ⟨s1, s2⟩ := hS; go_simp; (first | done | with_reducible rfl)); (try simp only [Act.put, List.setIfInBounds_toArray, List.set_cons_zero, List.set_cons_succ]))
        (refine' wpSeq_take rfl _ (by rfl) ?_ ?_; rotate_left; focus (intro w' hS; (try dsimp only at hS); obtain ⟨s1, s2⟩ := hS; go_simp; (first | done | with_reducible rfl)); (try simp only [Act.put, List.setIfInBounds_toArray, List.set_cons_zero, List.set_cons_succ]))
        (refine' wpSeq_take rfl _ (by rfl) ?_ ?_; rotate_left; focus (intro w' hS; (try dsimp only at hS); obtain ⟨s1, s2⟩ := hS; go_simp; (first | done | with_reducible rfl)); (try simp only [Act.put, List.setIfInBounds_toArray, List.set_cons_zero, List.set_cons_succ]))
        (refine' wpSeq_take rfl (.int .i64 c) (by rfl) ?_ ?_; focus (intro w' hS; obtain ⟨s1, s2⟩ := hS; have s3 := hlook.out w' s1; go_simp; rw [← hr, s3]; rfl); (try simp only [Act.put, List.setIfInBounds_toArray, List.set_cons_zero, List.set_cons_succ]))
        (refine' wpSeq_take rfl _ (by rfl) ?_ ?_; rotate_left; focus (intro w' hS; (try dsimp only at hS); obtain ⟨s1, s2⟩ := hS; go_simp; (first | done | with_reducible rfl)); (try simp only [Act.put, List.setIfInBounds_toArray, List.set_cons_zero, List.set_cons_succ]))
        (refine' wpSeq_take rfl _ (by rfl) ?_ ?_; rotate_left; focus (intro w' hS; (try dsimp only at hS); obtain ⟨s1, s2⟩ := hS; go_simp; (first | done | with_reducible rfl)); (try simp only [Act.put, List.setIfInBounds_toArray, List.set_cons_zero, List.set_cons_succ]))
        (refine' wpSeq_take rfl _ (by rfl) ?_ ?_; rotate_left; focus (intro w' hS; (try dsimp only at hS); obtain ⟨s1, s2⟩ := hS; go_simp; (first | done | with_reducible rfl)); (try simp only [Act.put, List.setIfInBounds_toArray, List.set_cons_zero, List.set_cons_succ]))
        (refine' wpSeq_take rfl (.int .i64 c) (by rfl) ?_ ?_; focus (intro w' hS; obtain ⟨s1, s2⟩ := hS; have s3 := hlook.out w' s1; go_simp; rw [← hr, s3]; rfl); (try simp only [Act.put, List.setIfInBounds_toArray, List.set_cons_zero, List.set_cons_succ]))
        (repeat (refine' wpSeq_take rfl _ (by rfl) ?_ ?_; rotate_left; focus (intro w' hS; (try dsimp only at hS); obtain ⟨s1, s2⟩ := hS; go_simp; (first | done | with_reducible rfl)); (try simp only [Act.put, List.setIfInBounds_toArray, List.set_cons_zero, List.set_cons_succ])))
        have hkcell : Below W1.heap.size W1 (W1.alloc (.cells #[.int .i64 k] 3)) := (Below.refl _ _).alloc (Nat.le_refl _) _
        have hS2 : S (W1.alloc (.cells #[.int .i64 k] 3)).drew := ⟨(hown.alloc _).drew, (hkcell.cell (p := ⟨go, c, none⟩) hgo2).trans hcell⟩
        refine wpSeq_call rfl (by rfl) (fun K hK => ?_)
        go_simp
        refine hK _ _ hS2 ?_
        clear hK K
        (try simp only [Act.put, List.setIfInBounds_toArray, List.set_cons_zero, List.set_cons_succ])
        have hrow' : ((W1.alloc (.cells #[.int .i64 k] 3)).drew).ownsRow (w.heap.size + 1) 3 1 (.slice ar (xs c).length cc) (xs c).length ((xs c).map (Value.int .i64)) := by
          have h := HROW.out
          rw [hrv] at h
          exact h.alloc _
        have hsB := HB.out.size
        refine wpSeq_call rfl (by rfl) (fun K hK => ?_)
        refine wp_append_lies _ (.tmp 36) (.tmp 38) 25 rfl (w.heap.size + 1) 3 i1 (.int .i64 0) 1 8 Try.underInts hj hy0 hy1 hy2 rfl (by decide) (.slice ar (xs c).length cc) (xs c).length _ rfl hrow' ⟨W1.heap.size, 0, none⟩ 1 1 [.int .i64 k] rfl rfl (cell_one_new _ _ _) (by simp [Value.oneCell']) (by omega) (by unfold maxLen; omega) (by omega) (by simp; omega) _ rfl ?_
        intro bn cn w2 hown2 hgr2 hat hlt2
        have hR1 : OwnR 25 3 (W1.alloc (.cells #[.int .i64 k] 3)).drew (w.heap.size + 1) (.slice (some ⟨go, 0, none⟩) m gc) m rv xs := HR.out.below hkcell.drew
        have hg' : ((W1.alloc (.cells #[.int .i64 k] 3)).drew).grownBy w2 (rv c).ownBlock := by rw [hrv]; exact hgr2
        have hat' : (rv c).ownBlock = some bn ∨ ((W1.alloc (.cells #[.int .i64 k] 3)).drew).heap.size ≤ bn := by
          rw [hrv]
          rcases hat with e | e
          · exact .inl e
          · exact .inr (Nat.le_of_eq e.symm)
        have hput := hR1.put (zs := xs c ++ [(k : Int)]) (by decide) hcm hg' (by rw [List.length_append, List.map_append]; exact hown2) hat'
        have hc2 : w2.cell? ⟨go, c, none⟩ = some (.slice ar (xs c).length cc) := by
          rw [(hR1.outer.kept hg' (hR1.apart (by decide) c hcm)).cellAt c (by simpa using hcm)]
          simp [hcm, hrv]
        have hfr2 : w2.frozen? ⟨go, c, none⟩ = false := (hR1.outer.kept hg' (hR1.apart (by decide) c hcm)).frozenAt c
        have hm2 : w2.ownsMap Try.prog 3 (plainElem Try.prog 3) w.heap.size (k + 1) (plD F (k + 1)) := by
          refine ((hown.alloc _).drew).kept hgr2 (fun e => ?_)
          have := (hrow'.lt _ e.symm).1
          omega
        have HP := hid hput
        have HG := hid hgr2
        have HM := hid hm2
        clear hput hgr2 hR1 hg' hat' hown2 hat
        refine hK _ _ ⟨hm2, hc2⟩ ?_
        clear hK K hm2
        (try simp only [Act.put, List.setIfInBounds_toArray, List.set_cons_zero, List.set_cons_succ])
        refine wpSeq_nil ?_
        clear hS2 S
        go_wp2
        go_roundw
        have hne : w.heap.size ≠ go := by omega
        refine ⟨k + 1, _, _, hlt, rfl, by rw [hmm']; exact HP.out, fun i hi => ?_, HM.out.setCell hne _, ?_⟩
        · split
          · simp; omega
          · rw [hmm'] at hi
            have := HX.out i hi
            omega
        · refine ((HB.out.alloc hsB _).drew.grown HG.out (by simp; omega) (fun q hq => ?_)).setCell (by simp; omega) _
          have := (hrow'.lt _ hq).1
          omega
        · show N - ((k : Int) + 1).toNat < N - (k : Int).toNat
          omega
    · obtain rfl : k = N := by omega
      go_wp2
      go_ret
      exact ⟨hB, ao, co, rfl⟩

end Go.Proofs.Ytlhbgainpeehoaa
