/-
  Contract of the notation: Digraph.
-/
import Derived.Test.YtemmepgfngkgmaaGreatDoorN43
namespace Go.Proofs.YtemmepgfngkgmaaGreatDoor
open Go.RowKit
set_option linter.unusedVariables false
set_option linter.unusedSimpArgs false

/-- A right digraph. -/
def Dok (g : G) : Prop := dgErr g = 0
theorem Dok.n {g : G} (h : Dok g) : 1 ≤ g.n ∧ g.n ≤ 12 := by
  unfold Dok dgErr at h
  split at h
  · omega
  · omega
theorem Dok.arc {g : G} (h : Dok g) (k : Nat) (hk : k < g.es.length) : arcErr g k = 0 := by
  unfold Dok dgErr at h
  split at h
  · omega
  · exact firstNZ_zero _ _ _ h k (Nat.zero_le _) (by omega)
theorem Dok.ends {g : G} (h : Dok g) (k : Nat) (hk : k < g.es.length) : 0 ≤ (g.es[k]?.getD default).a ∧ (g.es[k]?.getD default).a < g.n ∧ 0 ≤ (g.es[k]?.getD default).b ∧ (g.es[k]?.getD default).b < g.n ∧ 1 ≤ (g.es[k]?.getD default).m ∧ (g.es[k]?.getD default).m ≤ 50 ∧
    (0 < k → (g.es[k - 1]?.getD default).a < (g.es[k]?.getD default).a ∨ (g.es[k - 1]?.getD default).a = (g.es[k]?.getD default).a ∧ (g.es[k - 1]?.getD default).b < (g.es[k]?.getD default).b) := by
  have he := h.arc k hk
  unfold arcErr at he
  generalize g.es[k]?.getD default = x at *
  generalize g.es[k - 1]?.getD default = y at *
  by_cases h1 : (!vtx g.n x.a || !vtx g.n x.b || decide (x.m < 1) || decide (50 < x.m)) = true
  · rw [if_pos h1] at he; omega
  · rw [if_neg h1] at he
    by_cases h2 : 0 < k ∧ (x.a < y.a ∨ x.a = y.a ∧ x.b ≤ y.b)
    · rw [if_pos h2] at he; omega
    · unfold vtx at h1
      simp at h1
      refine ⟨by omega, by omega, by omega, by omega, by omega, by omega, fun h => by omega⟩
theorem Dok.low {g : G} (h : Dok g) : ∀ x ∈ g.es, lowE x := fun x hx => by
  obtain ⟨k, hk, rfl⟩ := List.mem_iff_getElem.1 hx
  have h1 := h.ends k hk
  have h2 := h.n
  rw [List.getElem?_eq_getElem hk] at h1
  have h1 : 0 ≤ g.es[k].a ∧ g.es[k].a < g.n ∧ 0 ≤ g.es[k].b ∧ g.es[k].b < g.n ∧ 1 ≤ g.es[k].m ∧ g.es[k].m ≤ 50 ∧ _ := h1
  exact ⟨by omega, by omega, by omega, by omega, by omega, by omega⟩
theorem Dok.code {g : G} (h : Dok g) : ∀ k : Nat, k < g.es.length → (k : Int) ≤ (g.es[k]?.getD default).a * 12 + (g.es[k]?.getD default).b
  | 0, hk => by have := h.ends 0 hk; omega
  | k + 1, hk => by
    have h1 := h.code k (by omega)
    have h2 := h.ends (k + 1) hk
    have h3 := h.ends k (by omega)
    have h4 := h2.2.2.2.2.2.2 (by omega)
    have h5 := h.n
    rw [Nat.add_sub_cancel] at h4
    omega
theorem Dok.len {g : G} (h : Dok g) : g.es.length ≤ 144 := by
  rcases Nat.eq_zero_or_pos g.es.length with h0 | h0
  · omega
  · have h1 := h.code (g.es.length - 1) (by omega)
    have h2 := h.ends (g.es.length - 1) (by omega)
    have h3 := h.n
    omega

set_option maxRecDepth 100000 in
set_option maxHeartbeats 4000000 in
theorem n_Digraph (g : G) (gv : Value) (w : World) (hg : GrR w gv g) :
    Calls Tryz.prog 31 #[gv] w fun e w' => e = .returned (limV (digraphR g)) ∧ Below w.heap.size w w' := by
  obtain ⟨i0, hi, hz0, hz1, hz2⟩ := info_parts info_line
  obtain ⟨Z, HZ⟩ : ∃ Z, Hid (Z = digraphR g) := ⟨_, rfl⟩
  rw [← HZ.out]
  have HG0 := hid hg
  obtain ⟨ev, rfl, hE⟩ := hg
  have HE := hid hE
  obtain ⟨a, cap, rfl, hcap, hcm, _⟩ := hE
  have hgb := hid (Blk.new w #[.int .i64 g.n, .slice a g.es.length cap] 61)
  have HB0 := hid ((Below.refl w.heap.size w).alloc (Nat.le_refl _) (.cells #[.int .i64 g.n, .slice a g.es.length cap] 61))
  have HG1 := hid (HG0.out.below HB0.out)
  have HE0 := hid (HE.out.below HB0.out)
  go_enter Tryz.func31, Tryz.ntmps31
  go_upto_region 1 with fail
  generalize w.alloc (.cells #[.int .i64 g.n, .slice a g.es.length cap] 61) = W0 at *
  have c0 : W0.cell? ⟨w.heap.size, 0, none⟩ = some (.int .i64 g.n) := (hgb.out.cell 0).trans rfl
  have c1 : W0.cell? ⟨w.heap.size, 1, none⟩ = some (.slice a g.es.length cap) := (hgb.out.cell 1).trans rfl
  have hgl := hgb.out.lt
  go_wp2_with fail
  refine (n_CheckD g _ W0 HG1.out).mono ?_
  rintro e w1 ⟨rfl, hB1⟩
  have HB1 := hid (up HB0.out hB1)
  have hgb1 := hid (hgb.out.below hB1)
  have HL := hid (HE0.out.below hB1)
  clear c0 c1 hgl hB1 HG0 HG1 HE HE0 HB0
  dsimp only
  by_cases hc : dgErr g = 0
  · have HZ2 : Hid (Z = limR (wDigraph ++ 32 :: (Lib.itoa g.n ++ 58 :: arcsT 62 g.es))) := by have h := HZ.out; unfold digraphR at h; rw [if_neg (by omega)] at h; exact h
    have hn := Dok.n hc
    have HLOW := hid (Dok.low hc)
    have hlen := Dok.len hc
    have c1 : w1.cell? ⟨w.heap.size, 1, none⟩ = some (.slice a g.es.length cap) := (hgb1.out.cell 1).trans rfl
    have hgl := hgb1.out.lt
    have HN := hid hn
    have HGL := hid hgl
    rw [hc]
    clear HZ hc hn
    go_wp2_with fail
    generalize hes : g.es = es at *
    clear hes
    go_loopw [5, 16] (fun u i wr => ∃ k : Nat, k ≤ es.length ∧ i = .int .i64 k ∧ Hid (wr.ownsRow w1.heap.size 149 4 u k (linesC (es.take k))) ∧ Hid (Below w1.heap.size w1 wr))
      (fun _ i _ => es.length - (intOf i).toNat)
    case atStart => exact ⟨0, Nat.zero_le _, rfl, World.ownsRow_nil _ _ _ _, Below.refl _ _⟩
    case round =>
      obtain ⟨k, hkn, rfl, HO, HB⟩ := hrel
      by_cases hlt : k < es.length
      · obtain ⟨a', cap', ea, _, _, _, hc⟩ := HL.out.below HB.out
        injection ea with ea1 _ ea3
        subst ea1 ea3
        obtain ⟨b, off, rfl, hb, hc⟩ := hc.edge (by omega)
        obtain ⟨c0, c1, c2⟩ := hc k hlt
        have hst := hid (take_step es k hlt)
        have hlt' : (k : Int) < (es.length : Int) := by omega
        have hk0 : (0 : Int) ≤ (k : Int) := by omega
        clear hc
        generalize hx : es[k]?.getD default = x at *
        obtain ⟨xa, xb, xm⟩ := x
        dsimp only at c0 c1 c2
        clear hx
        go_upto_region 8 with fail
        have hs := HB.out.size
        have HX := hid (Blk.new wr #[.int .i64 xa, .int .i64 xb, .int .i64 xm] 147)
        have HO1 := hid (HO.out.alloc (.cells #[.int .i64 xa, .int .i64 xb, .int .i64 xm] 147))
        have HB2 := hid (HB.out.alloc hs (.cells #[.int .i64 xa, .int .i64 xb, .int .i64 xm] 147))
        generalize hX : wr.heap.size = X at *
        generalize wr.alloc (.cells #[.int .i64 xa, .int .i64 xb, .int .i64 xm] 147) = W1 at *
        have x0 := HX.out.cell 0
        have x1 := HX.out.cell 1
        have x2 := HX.out.cell 2
        simp only [List.getElem?_toArray, List.getElem?_cons_zero, List.getElem?_cons_succ] at x0 x1 x2
        have hXl := HX.out.lt
        have hs1 := HB2.out.size
        clear c0 c1 c2 HO HB
        go_wp2_with (at_builtin; refine wpList_append_own _ rfl _ _ 92 rfl w1.heap.size 149 i0 (.agg #[.int .i64 0, .int .i64 0, .int .i64 0, .int .i64 0]) 4 32 und_lines hi hz0 hz1 hz2 rfl (by decide) _ k _ rfl (HO1.out.alloc _) ⟨W1.heap.size, 0, none⟩ 1 1 [.int .i64 xa, .int .i64 xb, .int .i64 xm, .int .i64 0] rfl rfl (fun j u h => four_news W1 xa xb xm 0 _ j u h) (by simp [Value.oneCell']) (by unfold maxLen; omega) (by omega) (by simp; omega) ?_; intro v' w2 hown2 hgr2 _; have HO2 := hid hown2; have HG := hid ((Below.toGrown ((Below.refl _ W1).alloc (Nat.le_refl _) (.cells #[.int .i64 xa, .int .i64 xb, .int .i64 xm, .int .i64 0] 149)) u5.ownBlock).trans hgr2); clear hown2 hgr2)
        go_roundw
        case rel =>
          refine ⟨k + 1, by omega, by go_num, ?_, ?_⟩
          · show World.ownsRow _ _ _ _ _ _ _
            rw [hst.out, linesC_append]
            exact HO2.out
          · exact HB2.out.grown HG.out hs1 (fun q hq => (HO1.out.lt q hq).1)
        case measure => simp [intOf]; omega
      · obtain rfl : k = es.length := by omega
        rw [List.take_length] at HO
        have hlt' : ¬ (es.length : Int) < (es.length : Int) := by omega
        obtain ⟨W2, rfl⟩ : ∃ W : World, W = wr := ⟨_, rfl⟩
        have HLR := hid (owns_linesR HO.out)
        have hcl : Hid (∀ W', Below W2.heap.size W2 W' → W'.cell? ⟨w.heap.size, 0, none⟩ = some (.int .i64 g.n) ∧ w.heap.size < W'.heap.size) := fun W' hB =>
          have hb := (hgb1.out.below HB.out).below hB
          ⟨(hb.cell 0).trans rfl, hb.lt⟩
        have HW := hid (fun (v : Value) (w : World) (hL : LinesR w v es) => n_written wDigraph 62 111 g.n es v w (by have := HN.out; omega) (by have := HN.out; omega) HLOW.out (by omega) (by decide) hL)
        have hlm := hid (fun w => n_limited (wDigraph ++ 32 :: (Lib.itoa g.n ++ 58 :: arcsT 62 es)) w)
        generalize limR (wDigraph ++ 32 :: (Lib.itoa g.n ++ 58 :: arcsT 62 es)) = z at *
        obtain ⟨z1, z2⟩ := z
        unfold limV at hlm
        dsimp only at hlm
        go_upto_region 10 with fail
        let S : World → Prop := fun W' => Hid (Below W2.heap.size W2 W')
        (refine wp_region_text 9 [1,2,3,0,4,5,6,7,8] S (by kernel_rfl) (by kernel_rfl) (by intro _ _ d _ _ h; cases d <;> exact h) ?hS ?_; rotate_left; simp only [List.map_cons, List.map_nil, List.getD_cons_zero, List.getD_cons_succ, List.drop_succ_cons, List.drop_zero])
        case hS => exact Below.drew (Below.refl _ _)
        (repeat ((refine' wpSeq_take rfl _ (by rfl) ?_ ?_; rotate_left; focus (intro w' hS; (try dsimp only at hS); obtain ⟨s0, s1⟩ := hcl.out _ hS.out; go_simp; (first | done | with_reducible rfl)); (try simp only [Act.put, List.setIfInBounds_toArray, List.set_cons_zero, List.set_cons_succ])); (try simp only [Act.put, List.setIfInBounds_toArray, List.set_cons_zero, List.set_cons_succ])))
        (refine wpSeq_call rfl (by rfl) (fun K hK => ?_); go_simp; refine ((n_digraphs _)).mono ?_; rintro e w2 ⟨rfl, hB2⟩; refine hK _ _ (((Below.drew (Below.refl W2.heap.size W2)).trans hB2)) ?_; clear hK K; (try simp only [Act.put, List.setIfInBounds_toArray, List.set_cons_zero, List.set_cons_succ]))
        have HB2 := hid ((Below.drew (Below.refl W2.heap.size W2)).trans hB2)
        clear hB2
        (refine wpSeq_call rfl (by rfl) (fun K hK => ?_); go_simp; refine ((HW.out _ w2 (HLR.out.below HB2.out))).mono ?_; rintro e w4 ⟨rfl, hB4⟩; refine hK _ _ ((up HB2.out hB4)) ?_; clear hK K; (try simp only [Act.put, List.setIfInBounds_toArray, List.set_cons_zero, List.set_cons_succ]))
        have HB4 := hid (up HB2.out hB4)
        clear hB4
        (refine wpSeq_call rfl (by rfl) (fun K hK => ?_); go_simp; refine ((hlm.out w4)).mono ?_; rintro e w5 ⟨rfl, rfl⟩; refine hK _ _ (HB4.out) ?_; clear hK K; (try simp only [Act.put, List.setIfInBounds_toArray, List.set_cons_zero, List.set_cons_succ]))
        (repeat ((refine' wpSeq_take rfl _ (by rfl) ?_ ?_; rotate_left; focus (intro w' hS; (try dsimp only at hS); have s1 := hS; go_simp; (first | done | with_reducible rfl)); (try simp only [Act.put, List.setIfInBounds_toArray, List.set_cons_zero, List.set_cons_succ])); (try simp only [Act.put, List.setIfInBounds_toArray, List.set_cons_zero, List.set_cons_succ])))
        refine wpSeq_nil ?_
        clear S
        go_wp2_with fail
        refine bodyPost_ret (results_two rfl _ _ _) rfl ?_
        rw [HZ2.out]
        exact ⟨rfl, up HB1.out (up HB.out HB4.out)⟩
  · have HZ2 : Hid (Z = (dgErr g, [])) := by have h := HZ.out; unfold digraphR at h; rw [if_pos hc] at h; exact h
    have hc1 : (dgErr g != 0) = true := by simpa using hc
    clear HZ hc
    go_wp2_with fail
    refine bodyPost_ret (results_two rfl _ _ _) rfl ?_
    rw [HZ2.out]
    exact ⟨rfl, HB1.out⟩

end Go.Proofs.YtemmepgfngkgmaaGreatDoor
