/-
  The reference: Digraph; FewDigraph.
-/
import Derived.Test.YtemmepgfngkgmaaGreatDoorN45
namespace Go.Proofs.YtemmepgfngkgmaaGreatDoor
open Go.RowKit
set_option linter.unusedVariables false
set_option linter.unusedSimpArgs false

set_option maxRecDepth 100000 in
set_option maxHeartbeats 4000000 in
theorem q_Digraph (g : G) (gv : Value) (w : World) (hg : GrR w gv g) (hln : g.es.length ≤ 1000000) :
    Calls Tryz.prog 32 #[gv] w fun e w' => e = .returned (limV (digraphR g)) ∧ Below w.heap.size w w' := by
  obtain ⟨Z, HZ⟩ : ∃ Z, Hid (Z = digraphR g) := ⟨_, rfl⟩
  rw [← HZ.out]
  have HG0 := hid hg
  obtain ⟨ev, rfl, hE⟩ := hg
  have HE := hid hE
  obtain ⟨a, cap, rfl, hcap, hcm, _⟩ := hE
  have hgb := hid (Blk.new w #[.int .i64 g.n, .slice a g.es.length cap] 61)
  have HBx := hid ((Below.refl w.heap.size w).alloc (Nat.le_refl _) (.cells #[.int .i64 g.n, .slice a g.es.length cap] 61))
  have HG1 := hid (HG0.out.below HBx.out)
  have HEx := hid (HE.out.below HBx.out)
  go_enter Tryz.func32, Tryz.ntmps32
  go_upto_region 1 with fail
  generalize w.alloc (.cells #[.int .i64 g.n, .slice a g.es.length cap] 61) = Wx at *
  have c0 : Wx.cell? ⟨w.heap.size, 0, none⟩ = some (.int .i64 g.n) := (hgb.out.cell 0).trans rfl
  have c1 : Wx.cell? ⟨w.heap.size, 1, none⟩ = some (.slice a g.es.length cap) := (hgb.out.cell 1).trans rfl
  have hgl := hgb.out.lt
  go_wp2_with fail
  refine (q_CheckD g _ Wx HG1.out hln).mono ?_
  rintro e W0 ⟨rfl, hB1⟩
  have HB0 := hid (up HBx.out hB1)
  have hgb := hid (hgb.out.below hB1)
  have HE0 := hid (HEx.out.below hB1)
  clear c0 c1 hgl hB1 HG0 HG1 HE HEx HBx
  dsimp only
  by_cases hc : dgErr g = 0
  · have HZ2 : Hid (Z = limR (wDigraph ++ 32 :: (Lib.itoa g.n ++ 58 :: arcsT 62 g.es))) := by have h := HZ.out; unfold digraphR at h; rw [if_neg (by omega)] at h; exact h
    have hn := Dok.n hc
    have HLOW := hid (Dok.low hc)
    have HLEN := hid (Dok.len hc)
    have hit := itoa_low (n := g.n) (by omega) (by omega)
    have zn := str_size (Lib.itoa g.n)
    have hdn := hid (fun w => r_dig g.n (by omega) (by omega) w)
    have zg : (({ data := #[100, 105, 103, 114, 97, 112, 104, 32] } : ByteArray)).size = 8 := rfl
    have zc : (({ data := #[58] } : ByteArray)).size = 1 := rfl
    have hgc0 : W0.cell? ⟨w.heap.size, 0, none⟩ = some (.int .i64 g.n) := (hgb.out.cell 0).trans rfl
    have hgl := hgb.out.lt
    have zz : ({ data := #[100, 105, 103, 114, 97, 112, 104, 32] } : ByteArray) ++ str (Lib.itoa g.n) ++ ({ data := #[58] } : ByteArray) = str (wDigraph ++ 32 :: (Lib.itoa g.n ++ [58])) := by
      apply ByteArray.ext
      simp [str, wDigraph]
    rw [hc]
    clear HZ hc hn
    go_wp2_with fail
    refine (hdn.out W0).mono ?_
    rintro e w1 ⟨rfl, rfl⟩
    dsimp only
    go_wp2_with fail
    (try rw [zz])
    clear hgc0 hgl zn hdn zg zc zz
    obtain ⟨Y, HY⟩ : ∃ Y, Hid (Y = wDigraph ++ 32 :: (Lib.itoa g.n ++ 58 :: arcsT 62 g.es)) := ⟨_, rfl⟩
    rw [← HY.out] at HZ2
    go_loopw [5, 6] (fun s i wr => ∃ (k : Nat) (acc : List UInt8), k ≤ g.es.length ∧ i = .int .i64 k ∧ s = .string (str acc) ∧ acc.length ≤ 20 + 9 * k ∧ Hid (acc ++ arcsT 62 (g.es.drop k) = Y) ∧ Hid (Below W0.heap.size W0 wr))
      (fun _ i _ => g.es.length - (intOf i).toNat)
    case atStart => exact ⟨0, wDigraph ++ 32 :: (Lib.itoa g.n ++ [58]), Nat.zero_le _, rfl, rfl, by simp [wDigraph]; omega, by show _ = _; rw [HY.out]; simp, Below.refl _ _⟩
    case round =>
      obtain ⟨k, acc, hkn, rfl, rfl, hacc, HA, HB⟩ := hrel
      obtain ⟨W1, rfl⟩ : ∃ W : World, W = wr := ⟨_, rfl⟩
      have hgw := hgb.out.below HB.out
      have g1 : W1.cell? ⟨w.heap.size, 1, none⟩ = some (.slice a g.es.length cap) := (hgw.cell 1).trans rfl
      have hgl := hgw.lt
      have hlen := HLEN.out
      by_cases hlt : k < g.es.length
      · have hlt' : (k : Int) < (g.es.length : Int) := by omega
        have hk0 : (0 : Int) ≤ (k : Int) := by omega
        obtain ⟨a', cap', ea, _, _, _, hc⟩ := HE0.out.below HB.out
        injection ea with ea1 _ ea3
        subst ea1 ea3
        obtain ⟨b, off, rfl, hb, hc⟩ := hc.edge (by omega)
        obtain ⟨c0, c1, c2⟩ := hc k hlt
        have ha2 := HA.out
        rw [drop_arcs hlt] at ha2
        have hlow := HLOW.out (g.es[k]?.getD default) (by rw [List.getElem?_eq_getElem hlt]; exact List.getElem_mem hlt)
        clear hc
        generalize hx : g.es[k]?.getD default = x at *
        obtain ⟨xa, xb, xm⟩ := x
        dsimp only at c0 c1 c2
        have HA := hid ha2
        obtain ⟨q1, q2, q3, q4, q5, q6⟩ := hlow
        dsimp only at q1 q2 q3 q4 q5 q6
        clear hx ha2
        go_upto_region 9 with fail
        have HX := hid (Blk.new W1 #[.int .i64 xa, .int .i64 xb, .int .i64 xm] 147)
        have HB2 := hid (HB.out.alloc HB.out.size (.cells #[.int .i64 xa, .int .i64 xb, .int .i64 xm] 147))
        generalize hX : W1.heap.size = X at *
        generalize W1.alloc (.cells #[.int .i64 xa, .int .i64 xb, .int .i64 xm] 147) = W4 at *
        have x0 : W4.cell? ⟨X, 0, none⟩ = some (.int .i64 xa) := (HX.out.cell 0).trans rfl
        have x1 : W4.cell? ⟨X, 1, none⟩ = some (.int .i64 xb) := (HX.out.cell 1).trans rfl
        have x2 : W4.cell? ⟨X, 2, none⟩ = some (.int .i64 xm) := (HX.out.cell 2).trans rfl
        have hXl := HX.out.lt
        clear c0 c1 c2 g1 hgl hgw hb HB
        have hia := hid (fun w => r_dig xa (by omega) (by omega) w)
        have hib := hid (fun w => r_dig xb (by omega) (by omega) w)
        have him := hid (fun w => r9_times xm q5 q6 w)
        have la : (str (Lib.itoa xa)).size ≤ 2 := by rw [str_size]; exact itoa_low q1 q2
        have lb : (str (Lib.itoa xb)).size ≤ 2 := by rw [str_size]; exact itoa_low q3 q4
        have lm : (str (timesT xm)).size ≤ 3 := by rw [str_size]; exact times_len q5 q6
        have ls := str_size acc
        have zs : (({ data := #[32] } : ByteArray)).size = 1 := rfl
        have zd : (({ data := #[62] } : ByteArray)).size = 1 := rfl
        let S : World → Prop := fun W' => Hid (W' = W4.drew)
        (refine wp_region_text 15 [0,1,2,6,7,10,11,3,4,5,8,9,12,13,14] S (by kernel_rfl) (by kernel_rfl) (by intro _ _ d _ _ h; cases d <;> exact h) ?hS ?_; rotate_left; simp only [List.map_cons, List.map_nil, List.getD_cons_zero, List.getD_cons_succ, List.drop_succ_cons, List.drop_zero])
        case hS => exact rfl
        (repeat ((refine' wpSeq_take rfl _ (by rfl) ?_ ?_; rotate_left; focus (intro w' hS; (try dsimp only at hS); obtain rfl := hS.out; go_simp; (first | done | with_reducible rfl)); (try simp only [Act.put, List.setIfInBounds_toArray, List.set_cons_zero, List.set_cons_succ])); (try simp only [Act.put, List.setIfInBounds_toArray, List.set_cons_zero, List.set_cons_succ])))
        (refine wpSeq_call rfl (by rfl) (fun K hK => ?_); go_simp; refine ((hia.out _)).mono ?_; rintro e w1 ⟨rfl, rfl⟩; refine hK _ _ (rfl) ?_; clear hK K; (try simp only [Act.put, List.setIfInBounds_toArray, List.set_cons_zero, List.set_cons_succ]))
        (refine' wpSeq_take rfl _ (by rfl) ?_ ?_; rotate_left; focus (intro w' hS; (try dsimp only at hS); obtain rfl := hS.out; go_simp; rw [if_neg (by omega)]); (try simp only [Act.put, List.setIfInBounds_toArray, List.set_cons_zero, List.set_cons_succ]))
        (refine' wpSeq_take rfl _ (by rfl) ?_ ?_; rotate_left; focus (intro w' hS; (try dsimp only at hS); obtain rfl := hS.out; go_simp; rw [if_neg (by omega)]); (try simp only [Act.put, List.setIfInBounds_toArray, List.set_cons_zero, List.set_cons_succ]))
        (refine wpSeq_call rfl (by rfl) (fun K hK => ?_); go_simp; refine ((hib.out _)).mono ?_; rintro e w1 ⟨rfl, rfl⟩; refine hK _ _ (rfl) ?_; clear hK K; (try simp only [Act.put, List.setIfInBounds_toArray, List.set_cons_zero, List.set_cons_succ]))
        (refine' wpSeq_take rfl _ (by rfl) ?_ ?_; rotate_left; focus (intro w' hS; (try dsimp only at hS); obtain rfl := hS.out; go_simp; rw [if_neg (by omega)]); (try simp only [Act.put, List.setIfInBounds_toArray, List.set_cons_zero, List.set_cons_succ]))
        (refine wpSeq_call rfl (by rfl) (fun K hK => ?_); go_simp; refine ((him.out _)).mono ?_; rintro e w1 ⟨rfl, rfl⟩; refine hK _ _ (rfl) ?_; clear hK K; (try simp only [Act.put, List.setIfInBounds_toArray, List.set_cons_zero, List.set_cons_succ]))
        (refine' wpSeq_take rfl _ (by rfl) ?_ ?_; rotate_left; focus (intro w' hS; (try dsimp only at hS); obtain rfl := hS.out; go_simp; rw [if_neg (by omega)]); (try simp only [Act.put, List.setIfInBounds_toArray, List.set_cons_zero, List.set_cons_succ]))
        (refine' wpSeq_take rfl _ (by rfl) ?_ ?_; rotate_left; focus (intro w' hS; (try dsimp only at hS); obtain rfl := hS.out; go_simp; rw [if_neg (by omega)]); (try simp only [Act.put, List.setIfInBounds_toArray, List.set_cons_zero, List.set_cons_succ]))
        refine wpSeq_nil ?_
        clear S
        go_wp2_with fail
        go_roundw
        case rel =>
          refine ⟨k + 1, acc ++ arcT 62 ⟨xa, xb, xm⟩, by omega, by go_num, ?_, ?_, ?_, below_dN HB2.out _⟩
          · congr 1
            apply ByteArray.ext
            simp [str, arcT]
          · have := arcT_low 62 (x := ⟨xa, xb, xm⟩) ⟨q1, q2, q3, q4, q5, q6⟩
            rw [List.length_append]; omega
          · show _ = _
            rw [← HA.out, List.append_assoc]
        case measure => simp [intOf]; omega
      · obtain rfl : k = g.es.length := by omega
        have hz := HA.out
        rw [List.drop_length] at hz
        have hz2 : acc = Y := by rw [← hz]; simp [arcsT]
        have hlt' : ¬ (g.es.length : Int) < (g.es.length : Int) := by omega
        have hlm := hid (fun w => r9_limited Y w)
        rw [← HZ2.out] at hlm
        obtain ⟨z1, z2⟩ := Z
        unfold limV at hlm
        dsimp only at hlm
        subst hz2
        clear hz HA
        go_wp2_with fail
        refine (hlm.out W1).mono ?_
        rintro e w3 ⟨rfl, rfl⟩
        dsimp only
        go_wp2_with fail
        refine bodyPost_ret (results_two rfl _ _ _) rfl ?_
        exact ⟨rfl, up HB0.out HB.out⟩
  · have HZ2 : Hid (Z = (dgErr g, [])) := by have h := HZ.out; unfold digraphR at h; rw [if_pos hc] at h; exact h
    have hc1 : (dgErr g != 0) = true := by simpa using hc
    clear HZ hc
    go_wp2_with fail
    refine bodyPost_ret (results_two rfl _ _ _) rfl ?_
    rw [HZ2.out]
    exact ⟨rfl, HB0.out⟩

end Go.Proofs.YtemmepgfngkgmaaGreatDoor
