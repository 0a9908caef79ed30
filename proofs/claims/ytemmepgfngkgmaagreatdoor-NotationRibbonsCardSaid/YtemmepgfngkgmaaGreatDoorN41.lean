/-
  The reference: ReadGraph; Same at equal graphs.
-/
import Derived.Test.YtemmepgfngkgmaaGreatDoorN40
namespace Go.Proofs.YtemmepgfngkgmaaGreatDoor
open Go.RowKit
set_option linter.unusedVariables false
set_option linter.unusedSimpArgs false

theorem addM_up {M : Int → Int → Int} (h : ∀ x y : Int, y < x → M x y = 0) {a b m : Int} (hab : a ≤ b) : ∀ x y : Int, y < x → addM M a b m x y = 0 := fun x y hxy => by
  unfold addM
  rw [if_neg (by omega)]
  exact h x y hxy
theorem tabG_up (sign : UInt8) (n : Int) : ∀ f (M : Int → Int → Int) (s : Rs), (∀ x y : Int, y < x → M x y = 0) → ∀ x y : Int, y < x → (tabG sign true n f M s).1 x y = 0
  | 0, M, s, h => h
  | f + 1, M, s, h => by
    cases hm : s.more with
    | false => rw [tabG_end _ _ _ _ _ _ hm]; exact h
    | true =>
      rw [tabG_step _ _ _ f _ _ hm (s.line sign n).1 (s.line sign n).2 rfl]
      split
      · exact h
      · split
        · exact h
        · exact tabG_up sign n f _ _ (addM_up h (by unfold lo hi; simp; omega))
theorem head_ts {s : Rs} (h : TsOk s.ts) (word : List UInt8) : TsOk (s.head word).2.ts := by
  unfold Rs.head
  exact (need_ts (num_ts (need_ts h word).1 1 12).1 [58]).1
/-- Reading a table, as the reference does. -/
def refP (word : List UInt8) (sign : UInt8) (either : Bool) (s : Rs) : G × Int × Int :=
  let h := s.head word
  if h.2.e ≠ 0 then (⟨0, []⟩, h.2.pl, h.2.e)
  else
    let t := tabG sign either h.1 h.2.ts.length (fun _ _ => 0) h.2
    if t.2.e ≠ 0 then (⟨0, []⟩, t.2.pl, t.2.e) else (⟨h.1, esOfM t.1 h.1.toNat⟩, 0, 0)
theorem refP_eq (word : List UInt8) (sign : UInt8) (either : Bool) (s : Rs) (hs : TsOk s.ts) : refP word sign either s = tableP word sign either s := by
  have ht := head_ts hs word
  unfold refP tableP
  dsimp only
  generalize s.head word = h at *
  obtain ⟨n, s1⟩ := h
  dsimp only at ht ⊢
  by_cases he : s1.e ≠ 0
  · rw [if_pos he, tabL_end _ _ _ _ _ _ (not_more he)]
    rw [if_pos he]
  · rw [if_neg he]
    obtain ⟨q1, q2⟩ := tab_eq sign either n s1.ts.length [] (fun _ _ => 0) s1 ht (RelM.nil n)
    rw [q1]
    by_cases h2 : (tabL sign either n s1.ts.length [] s1).2.e ≠ 0
    · rw [if_pos h2, if_pos h2]
    · rw [if_neg h2, if_neg h2, ← (q2 (by omega)).eq]

theorem results_cell3q {P : Program} {fn : Func} {k i j : Nat} {t : TypeId} (h : fn.results = #[.cell k t, .tmp i, .tmp j]) {tmps : Array Value} {b : Nat} {v : Value} {w : World} (ht : tmps[k]?.getD undef = .pointer (some ⟨b, 0, none⟩))
    (hl : (loadVar t ⟨b, 0, none⟩).run P w = .ok v w) : (results fn tmps).run P w = .ok (.tuple #[v, tmps.getD i undef, tmps.getD j undef]) w := results_cell3 h ht hl

set_option maxRecDepth 100000 in
set_option maxHeartbeats 4000000 in
theorem q_ReadGraph (text : List UInt8) (w : World) :
    Calls Tryz.prog 17 #[.string (str text)] w (RetRd w (tableP wGraph 45 true (opened (scanR text)))) := by
  rw [← refP_eq _ _ _ _ (opened_ok text)]
  obtain ⟨Z, hZ⟩ : ∃ Z, Z = refP wGraph 45 true (opened (scanR text)) := ⟨_, rfl⟩
  rw [← hZ]
  have HZ := hid hZ
  have hop := hid (q_open text)
  have hok := hid (opened_ok text)
  unfold refP at HZ
  dsimp only at HZ
  generalize opened (scanR text) = s at *
  clear hZ
  have HTS := hid (head_ts hok.out wGraph)
  go_enter Tryz.func17, Tryz.ntmps17
  go_wp2_with fail
  obtain ⟨W0, hW0⟩ : ∃ W : World, W = w.alloc (.cells #[.int .i64 0, .slice none 0 0] 24) := ⟨_, rfl⟩
  rw [← hW0]
  have HR := hid (show Blk W0 w.heap.size #[.int .i64 0, .slice none 0 0] 24 by rw [hW0]; exact Blk.new _ _ _)
  have HB0 := hid (show Below w.heap.size w W0 by rw [hW0]; exact (Below.refl _ _).alloc (Nat.le_refl _) _)
  clear hW0
  refine (hop.out W0).mono ?_
  rintro e w1 ⟨lv, rfl, ht, hB⟩
  obtain ⟨tb, htb1, htb2, hRk⟩ := Rk.new hok.out ht
  obtain ⟨la, lcap, rfl, _⟩ := ht
  have hst := (Below.refl w1.heap.size w1).alloc (Nat.le_refl _) (.cells #[.slice la s.ts.length lcap, .int .i64 0, .int .i64 s.e, .int .i64 s.pl] 107)
  have HK1 := hid hRk
  have HB1 := hid (up (up HB0.out hB) hst)
  have HR1 := hid ((HR.out.below hB).below hst)
  have HWB : Hid (w.heap.size < w1.heap.size) := by have := HR.out.lt; have := hB.size; show _ < _; omega
  clear hRk hop hB htb1 htb2 HB0 HR
  dsimp only
  go_upto_region 2 with fail
  clear hst
  generalize w1.alloc (.cells #[.slice la s.ts.length lcap, .int .i64 0, .int .i64 s.e, .int .i64 s.pl] 107) = W1 at *
  generalize w1.heap.size = b at *
  go_wp2_with fail
  refine (q_head W1 b tb s.ts s HK1.out wGraph).mono ?_
  rintro e w2 ⟨rfl, hK2, hg2⟩
  have HK2 := hid hK2
  have HB2 : Hid (Below w.heap.size w w2) := HB1.out.grown hg2 HB1.out.size (fun q hq => by have := HWB.out; simp at hq; omega)
  have HR2 := hid (HR1.out.grown hg2 (fun e => by have := HWB.out; simp at e; omega))
  have hhk : (s.head wGraph).2.e = 0 → 1 ≤ (s.head wGraph).1 ∧ (s.head wGraph).1 ≤ 12 := fun e => head_ok e
  have HHK := hid hhk
  clear hK2 hg2 HK1 HB1 HR1 hhk
  generalize s.head wGraph = h at *
  obtain ⟨n, s1⟩ := h
  have HK2 : Hid (Rk w2 b tb s.ts s1) := HK2
  have HTS : Hid (TsOk s1.ts) := HTS
  have HHK : Hid (s1.e = 0 → 1 ≤ n ∧ n ≤ 12) := HHK
  have HZ : Hid (Z = if s1.e ≠ 0 then (⟨0, []⟩, s1.pl, s1.e) else if (tabG 45 true n s1.ts.length (fun _ _ => 0) s1).2.e ≠ 0 then (⟨0, []⟩, (tabG 45 true n s1.ts.length (fun _ _ => 0) s1).2.pl, (tabG 45 true n s1.ts.length (fun _ _ => 0) s1).2.e) else (⟨n, esOfM (tabG 45 true n s1.ts.length (fun _ _ => 0) s1).1 n.toNat⟩, 0, 0)) := HZ
  obtain ⟨_, _, _, _, _, _, _, _, _, _, _, _, d2, d3, _⟩ := HK2.out.cells
  have hbl := HK2.out.lt
  dsimp only
  by_cases he : s1.e = 0
  · rw [he] at d2
    have hz := HZ.out
    rw [if_neg (by rw [he]; simp)] at hz
    have HZ := hid hz
    obtain ⟨hn1, hn2⟩ := HHK.out he
    have HNN := hid (And.intro hn1 hn2)
    have hNt : ((n.toNat : Nat) : Int) = n := by omega
    obtain ⟨N, hN⟩ : ∃ N, n.toNat = N := ⟨_, rfl⟩
    rw [hN] at HZ hNt
    have HNT := hid hNt
    have HTQ := hid (q_table n N (by omega) (by omega) hn1 hn2 45 true s.ts s1 b tb w2 HK2.out)
    have HUP := hid (tabG_up 45 n s1.ts.length (fun _ _ => 0) s1 (fun _ _ _ => rfl))
    have HRL := hid (tab_eq 45 true n s1.ts.length [] (fun _ _ => 0) s1 HTS.out (RelM.nil n))
    clear hz he HHK d3 hn1 hn2 hNt hN
    generalize tabG 45 true n s1.ts.length (fun _ _ => 0) s1 = t at *
    obtain ⟨M, s2⟩ := t
    have HUP : Hid (∀ x y : Int, y < x → M x y = 0) := HUP
    have HRM : Hid (s2.e = 0 → ∀ x y, 0 ≤ M x y ∧ M x y ≤ 50) := fun h => ((HRL.out.2 (by rw [← HRL.out.1]; exact h)).le)
    have HZ : Hid (Z = if s2.e ≠ 0 then (⟨0, []⟩, s2.pl, s2.e) else (⟨n, esOfM M N⟩, 0, 0)) := HZ
    clear HRL
    go_wp2_with fail
    refine HTQ.out.mono ?_
    rintro e w3 ⟨tv, bs, rfl, hM, hK3, hg3⟩
    have HM := hid hM
    have HK3 : Hid (Rk w3 b tb s.ts s2) := hK3
    have HB3 : Hid (Below w.heap.size w w3) := HB2.out.grown hg3 HB2.out.size (fun q hq => by have := HWB.out; simp at hq; omega)
    have HR3 := hid (HR2.out.grown hg3 (fun e => by have := HWB.out; simp at e; omega))
    obtain ⟨_, _, _, _, _, _, _, _, _, _, _, _, d2, d3, _⟩ := HK3.out.cells
    have hbl := HK3.out.lt
    clear hM hK3 hg3 HTQ HK2 HB2 HR2
    dsimp only
    by_cases he2 : s2.e = 0
    · rw [he2] at d2
      have HZ2 : Hid (Z = (⟨n, esOfM M N⟩, 0, 0)) := by have h := HZ.out; rw [if_neg (by rw [he2]; simp)] at h; exact h
      have HJ := hid (q_Joined n N (by have := HNT.out; omega) (by have := HNT.out; omega) (by have := HNN.out; omega) M (HRM.out he2) HUP.out tv bs _ w3 (HM.out.congr (natM M) (fun _ _ _ _ => rfl)) (by have := HNT.out; have := HNN.out; omega))
      have hlen := esTo_len M N N 0
      rw [esTo_all] at hlen
      have hl2 : N * N + 0 ≤ 144 := by have h1 : N ≤ 12 := (by have := HNT.out; have := HNN.out; omega); have := Nat.mul_le_mul h1 h1; omega
      have HLE : Hid ((esOfM M N).length ≤ 144) := by show _ ≤ _; omega
      clear HZ he2 hlen hl2 d3
      go_wp2_with fail
      refine HJ.out.mono ?_
      rintro e w4 ⟨ev, rfl, hev, hB4⟩
      have HEV := hid hev
      have HB4 := hid (up HB3.out hB4)
      have HR4 := hid (HR3.out.below hB4)
      have HW34 := hid HR3.out.lt
      obtain ⟨ea, ecap, rfl, _⟩ := owns_at hev
      clear hev hB4 HB3 HR3 d2 hbl
      have r0 := HR4.out.cell 0
      have r1 := HR4.out.cell 1
      simp only [List.getElem?_toArray, List.getElem?_cons_zero, List.getElem?_cons_succ] at r0 r1
      have f0 := HR4.out.frozen 0
      have f1 := HR4.out.frozen 1
      have rl := HR4.out.lt
      dsimp only
      go_wp2_with fail
      have HR5 := hid ((HR4.out.set 0 (.int .i64 n)).set 1 (.slice ea (esOfM M N).length ecap))
      rw [HZ2.out]
      refine bodyPost_ret (results_cell3 rfl rfl (load_gr rfl HR5.out)) rfl ⟨_, rfl, ⟨_, rfl, ?_⟩, ?_⟩
      · exact owns_edges (kept_row (kept_row HEV.out (grown_set _ _ _ _) (hnk _ HEV.out HW34.out)) (grown_set _ _ _ _) (hnk _ HEV.out HW34.out)) (show (esOfM M N).length * 24 ≤ 140737488355328 by have := HLE.out; omega)
      · exact (HB4.out.setCell (Nat.le_refl _) _).setCell (Nat.le_refl _) _
    · skip
      have HZ2 : Hid (Z = (⟨0, []⟩, s2.pl, s2.e)) := by have h := HZ.out; rw [if_pos he2] at h; exact h
      have he1 : (s2.e != 0) = true := by simpa using he2
      have HC := hid (And.intro d2 d3)
      clear HZ he2
      go_upto_region 7 with fail
      clear d2 d3
      have r0 := HR3.out.cell 0
      have r1 := HR3.out.cell 1
      simp only [List.getElem?_toArray, List.getElem?_cons_zero, List.getElem?_cons_succ] at r0 r1
      have hne : b ≠ w.heap.size := by have := HWB.out; omega
      let S : World → Prop := fun W' => W'.cell? ⟨b, 2, none⟩ = some (.int .i64 s2.e) ∧ W'.cell? ⟨b, 3, none⟩ = some (.int .i64 s2.pl)
      (refine wp_region_text 7 [0,1,2,3,4,5,6] S (by kernel_rfl) (by kernel_rfl) (by intro _ _ d _ _ h; cases d <;> exact h) ?hS ?_; rotate_left; simp only [List.map_cons, List.map_nil, List.getD_cons_zero, List.getD_cons_succ, List.drop_succ_cons, List.drop_zero])
      case hS => exact HC.out
      (repeat ((refine' wpSeq_take rfl _ (by rfl) ?_ ?_; rotate_left; focus (intro w' hS; (try dsimp only at hS); obtain ⟨s1, s2⟩ := hS; go_simp; (first | done | with_reducible rfl)); (try simp only [Act.put, List.setIfInBounds_toArray, List.set_cons_zero, List.set_cons_succ])); (try simp only [Act.put, List.setIfInBounds_toArray, List.set_cons_zero, List.set_cons_succ])))
      refine wpSeq_call rfl (by rfl) (fun K hK => ?_)
      have r0' : (w3.drew).cell? ⟨w.heap.size, 0, none⟩ = some (.int .i64 0) := r0
      have r1' : (w3.drew).cell? ⟨w.heap.size, 1, none⟩ = some (.slice none 0 0) := r1
      have f0 : (w3.drew).frozen? ⟨w.heap.size, 0, none⟩ = false := HR3.out.frozen 0
      have f1 : (w3.drew).frozen? ⟨w.heap.size, 1, none⟩ = false := HR3.out.frozen 1
      have rl : w.heap.size < (w3.drew).heap.size := HR3.out.lt
      have g0 := HR3.out.frozen 0
      have g1 := HR3.out.frozen 1
      have hS3 : S (((w3.setCell ⟨w.heap.size, 0, none⟩ (.int .i64 0)).setCell ⟨w.heap.size, 1, none⟩ (.slice none 0 0)).drew) := by
        constructor
        · show World.cell? (World.setCell (World.setCell _ _ _) _ _) _ = _
          rw [World.cell?_setCell_far _ _ _ _ (fun e => hne e.symm), World.cell?_setCell_far _ _ _ _ (fun e => hne e.symm)]; exact HC.out.1
        · show World.cell? (World.setCell (World.setCell _ _ _) _ _) _ = _
          rw [World.cell?_setCell_far _ _ _ _ (fun e => hne e.symm), World.cell?_setCell_far _ _ _ _ (fun e => hne e.symm)]; exact HC.out.2
      go_simp
      refine hK _ _ hS3 ?_
      clear hK K
      (try simp only [Act.put, List.setIfInBounds_toArray, List.set_cons_zero, List.set_cons_succ])
      (repeat ((refine' wpSeq_take rfl _ (by rfl) ?_ ?_; rotate_left; focus (intro w' hS; (try dsimp only at hS); obtain ⟨s1, s2⟩ := hS; go_simp; (first | done | with_reducible rfl)); (try simp only [Act.put, List.setIfInBounds_toArray, List.set_cons_zero, List.set_cons_succ])); (try simp only [Act.put, List.setIfInBounds_toArray, List.set_cons_zero, List.set_cons_succ])))
      refine wpSeq_nil ?_
      have HR9 := hid ((HR3.out.set 0 (.int .i64 0)).set 1 (.slice none 0 0))
      clear hS3 S r0 r1 r0' r1' f0 f1 g0 g1
      go_wp2_with fail
      rw [HZ2.out]
      refine bodyPost_ret (results_cell3 rfl rfl (load_gr rfl (Blk.drew HR9.out))) rfl ⟨_, rfl, gr_zero _, ?_⟩
      exact (((HB3.out.setCell (Nat.le_refl _) _).setCell (Nat.le_refl _) _).drew)
  · skip
    have HZ2 : Hid (Z = (⟨0, []⟩, s1.pl, s1.e)) := by have h := HZ.out; rw [if_pos he] at h; exact h
    have he1 : (s1.e != 0) = true := by simpa using he
    have HC := hid (And.intro d2 d3)
    clear HZ he
    go_upto_region 4 with fail
    clear d2 d3
    have r0 := HR2.out.cell 0
    have r1 := HR2.out.cell 1
    simp only [List.getElem?_toArray, List.getElem?_cons_zero, List.getElem?_cons_succ] at r0 r1
    have hne : b ≠ w.heap.size := by have := HWB.out; omega
    let S : World → Prop := fun W' => W'.cell? ⟨b, 2, none⟩ = some (.int .i64 s1.e) ∧ W'.cell? ⟨b, 3, none⟩ = some (.int .i64 s1.pl)
    (refine wp_region_text 7 [0,1,2,3,4,5,6] S (by kernel_rfl) (by kernel_rfl) (by intro _ _ d _ _ h; cases d <;> exact h) ?hS ?_; rotate_left; simp only [List.map_cons, List.map_nil, List.getD_cons_zero, List.getD_cons_succ, List.drop_succ_cons, List.drop_zero])
    case hS => exact HC.out
    (repeat ((refine' wpSeq_take rfl _ (by rfl) ?_ ?_; rotate_left; focus (intro w' hS; (try dsimp only at hS); obtain ⟨s1, s2⟩ := hS; go_simp; (first | done | with_reducible rfl)); (try simp only [Act.put, List.setIfInBounds_toArray, List.set_cons_zero, List.set_cons_succ])); (try simp only [Act.put, List.setIfInBounds_toArray, List.set_cons_zero, List.set_cons_succ])))
    refine wpSeq_call rfl (by rfl) (fun K hK => ?_)
    have r0' : (w2.drew).cell? ⟨w.heap.size, 0, none⟩ = some (.int .i64 0) := r0
    have r1' : (w2.drew).cell? ⟨w.heap.size, 1, none⟩ = some (.slice none 0 0) := r1
    have f0 : (w2.drew).frozen? ⟨w.heap.size, 0, none⟩ = false := HR2.out.frozen 0
    have f1 : (w2.drew).frozen? ⟨w.heap.size, 1, none⟩ = false := HR2.out.frozen 1
    have rl : w.heap.size < (w2.drew).heap.size := HR2.out.lt
    have g0 := HR2.out.frozen 0
    have g1 := HR2.out.frozen 1
    have hS3 : S (((w2.setCell ⟨w.heap.size, 0, none⟩ (.int .i64 0)).setCell ⟨w.heap.size, 1, none⟩ (.slice none 0 0)).drew) := by
      constructor
      · show World.cell? (World.setCell (World.setCell _ _ _) _ _) _ = _
        rw [World.cell?_setCell_far _ _ _ _ (fun e => hne e.symm), World.cell?_setCell_far _ _ _ _ (fun e => hne e.symm)]; exact HC.out.1
      · show World.cell? (World.setCell (World.setCell _ _ _) _ _) _ = _
        rw [World.cell?_setCell_far _ _ _ _ (fun e => hne e.symm), World.cell?_setCell_far _ _ _ _ (fun e => hne e.symm)]; exact HC.out.2
    go_simp
    refine hK _ _ hS3 ?_
    clear hK K
    (try simp only [Act.put, List.setIfInBounds_toArray, List.set_cons_zero, List.set_cons_succ])
    (repeat ((refine' wpSeq_take rfl _ (by rfl) ?_ ?_; rotate_left; focus (intro w' hS; (try dsimp only at hS); obtain ⟨s1, s2⟩ := hS; go_simp; (first | done | with_reducible rfl)); (try simp only [Act.put, List.setIfInBounds_toArray, List.set_cons_zero, List.set_cons_succ])); (try simp only [Act.put, List.setIfInBounds_toArray, List.set_cons_zero, List.set_cons_succ])))
    refine wpSeq_nil ?_
    have HR9 := hid ((HR2.out.set 0 (.int .i64 0)).set 1 (.slice none 0 0))
    clear hS3 S r0 r1 r0' r1' f0 f1 g0 g1
    go_wp2_with fail
    rw [HZ2.out]
    refine bodyPost_ret (results_cell3 rfl rfl (load_gr rfl (Blk.drew HR9.out))) rfl ⟨_, rfl, gr_zero _, ?_⟩
    exact (((HB2.out.setCell (Nat.le_refl _) _).setCell (Nat.le_refl _) _).drew)

end Go.Proofs.YtemmepgfngkgmaaGreatDoor
