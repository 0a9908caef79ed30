/-
  The walk of NotationNormal.
-/
import Derived.Test.YtemmepgfngkgmaaGreatDoorN64
namespace Go.Proofs.YtemmepgfngkgmaaGreatDoor
open Go.RowKit
set_option linter.unusedVariables false
set_option linter.unusedSimpArgs false

set_option maxRecDepth 100000 in
set_option maxHeartbeats 16000000 in
theorem l_NNormal (text : List UInt8) (w : World) (hE : Env w) :
    Calls Tryz.prog 8 #[.string (str text)] w fun e w' => e = .returned (.bool true) ∧ Below w.heap.size w w' := by
  have HE := hid hE
  have HBZ := hid (Below.refl w.heap.size w)
  have hs := str_size text
  clear hE
  by_cases hlen : 1500 < text.length
  · have hlen' : (1500 : Int) < ((str text).size : Int) := by omega
    clear hlen
    go_enter Tryz.func8, Tryz.ntmps8
    go_wp2_with fail
    refine (l_awake w (HE.out.below HBZ.out)).mono ?_
    rintro e wz ⟨rfl, hB⟩
    dsimp only
    go_wp2_with fail
    go_ret
    exact ⟨rfl, up HBZ.out hB⟩
  have hlen' : ¬ (1500 : Int) < ((str text).size : Int) := by omega
  have HRG := hid (fun w hE => n_ReadGraph text w hE)
  have HZG : Hid (∀ g pl, tableP wGraph 45 true (opened (scanR text)) = (g, pl, 0) → Gok g ∧ (graphR g).1 = 0) := fun g pl h => table_gok (opened_ok text) h
  have HRR := hid (fun w hE => n_ReadRibbon text w hE)
  have HZR : Hid (∀ g ls pl, ribP (opened (scanR text)) = ((g, ls), pl, 0) → (ribR g ls).1 = 0 ∧ ribP (opened (scanR (ribR g ls).2)) = ((g, ls), 0, 0) ∧ ls.length ≤ 10000 ∧ ∀ j : Nat, (ls[j]?.getD []).length ≤ 10000) := fun g ls pl h => rib_back (by omega) h
  generalize tableP wGraph 45 true (opened (scanR text)) = zg at *
  generalize ribP (opened (scanR text)) = zr at *
  clear hlen hs
  go_enter Tryz.func8, Tryz.ntmps8
  go_wp2_with fail
  clear hlen'
  refine (HRG.out w HE.out).mono ?_
  rintro e w1 ⟨gv, rfl, hg, hB⟩
  obtain ⟨g, pg, eg⟩ := zg
  dsimp only at hg ⊢
  have HGq := hid hg
  obtain ⟨ev, rfl, ga, gcap, rfl, _⟩ := hg
  have hst := (Below.refl w1.heap.size w1).alloc (Nat.le_refl _) (.cells #[.int .i64 g.n, .slice ga g.es.length gcap] 24)
  have HGA : Hid (∀ W, Below (w1.alloc (.cells #[.int .i64 g.n, .slice ga g.es.length gcap] 24)).heap.size (w1.alloc (.cells #[.int .i64 g.n, .slice ga g.es.length gcap] 24)) W → GrR W (.agg #[.int .i64 g.n, .slice ga g.es.length gcap]) g) := fun W hW => (HGq.out.below hst).below hW
  have HX1 := hid (Blk.new w1 #[.int .i64 g.n, .slice ga g.es.length gcap] 24)
  have HB1 := hid (up hB hst)
  clear hB HGq hst HRG
  go_upto_region 4 with fail
  generalize w1.alloc (.cells #[.int .i64 g.n, .slice ga g.es.length gcap] 24) = W1 at *
  generalize w1.heap.size = X1 at *
  by_cases heg : eg = 0
  case neg =>
    have heg1 : (eg == 0) = false := by simpa using heg
    clear heg HX1 HGA HZG
    go_upto_region 11 with fail
    go_wp2_with fail
    refine (HRR.out W1 (HE.out.below HB1.out)).mono ?_
    rintro e wr ⟨rv, rfl, hr, hB⟩
    obtain ⟨⟨gr, lr⟩, pr, er⟩ := zr
    dsimp only at hr ⊢
    have HRq := hid hr
    obtain ⟨ev, lv, rfl, ⟨a2, cap2, rfl, _⟩, ⟨la2, lcap2, _, rfl, _⟩⟩ := hr
    have hst := (Below.refl wr.heap.size wr).alloc (Nat.le_refl _) (.cells #[.int .i64 gr.n, .slice a2 gr.es.length cap2, .slice la2 lr.length lcap2] 40)
    have HRA : Hid (∀ W, Below (wr.alloc (.cells #[.int .i64 gr.n, .slice a2 gr.es.length cap2, .slice la2 lr.length lcap2] 40)).heap.size (wr.alloc (.cells #[.int .i64 gr.n, .slice a2 gr.es.length cap2, .slice la2 lr.length lcap2] 40)) W → RibR W (.agg #[.int .i64 gr.n, .slice a2 gr.es.length cap2, .slice la2 lr.length lcap2]) (gr, lr)) := fun W hW => (HRq.out.below hst).below hW
    have HX4 := hid (Blk.new wr #[.int .i64 gr.n, .slice a2 gr.es.length cap2, .slice la2 lr.length lcap2] 40)
    have HBR := hid (up (up HB1.out hB) hst)
    clear hB HRq hst
    go_upto_region 12 with fail
    generalize wr.alloc (.cells #[.int .i64 gr.n, .slice a2 gr.es.length cap2, .slice la2 lr.length lcap2] 40) = W4 at *
    generalize wr.heap.size = X4 at *
    by_cases her : er = 0
    case neg =>
      have her1 : (er == 0) = false := by simpa using her
      clear her
      go_wp2_with fail
      refine (l_awake W4 (HE.out.below HBR.out)).mono ?_
      rintro e wz ⟨rfl, hB⟩
      dsimp only
      go_wp2_with fail
      go_ret
      exact ⟨rfl, up HBR.out hB⟩
    subst her
    obtain ⟨hr1, hr2, hr3, hr4⟩ := HZR.out gr lr pr rfl
    have HNR := hid (fun w hE h => n_Ribbon gr lr (.agg #[.int .i64 gr.n, .slice a2 gr.es.length cap2, .slice la2 lr.length lcap2]) w hE h hr3 hr4)
    have HRR2 := hid (fun w h => n_ReadRibbon (ribR gr lr).2 w h)
    rw [hr2] at HRR2
    generalize ribR gr lr = zt at *
    obtain ⟨zt1, zt2⟩ := zt
    dsimp only at hr1
    subst hr1
    unfold limV at HNR
    dsimp only at HNR HRR2
    clear hr2 hr3 hr4
    have hcl : Hid (∀ W', Below W4.heap.size W4 W' → W'.cell? ⟨X4, 0, none⟩ = some (.int .i64 gr.n) ∧ W'.cell? ⟨X4, 1, none⟩ = some (.slice a2 gr.es.length cap2) ∧ W'.cell? ⟨X4, 2, none⟩ = some (.slice la2 lr.length lcap2) ∧ X4 < W'.heap.size) := fun W' hB =>
      ⟨((HX4.out.below hB).cell 0).trans rfl, ((HX4.out.below hB).cell 1).trans rfl, ((HX4.out.below hB).cell 2).trans rfl, (HX4.out.below hB).lt⟩
    obtain ⟨c0, c1, c2, cl⟩ := hcl.out W4 (Below.refl _ _)
    go_wp2_with fail
    refine (HNR.out W4 (HE.out.below HBR.out) (HRA.out _ (Below.refl _ _))).mono ?_
    rintro e w5 ⟨rfl, hB5⟩
    have HB5 := hid hB5
    clear hB5 c0 c1 c2 cl
    dsimp only
    go_upto_region 14 with fail
    go_wp2_with fail
    refine (HRR2.out w5 (HE.out.below (up HBR.out HB5.out))).mono ?_
    rintro e w6 ⟨rv, rfl, hr, hB⟩
    dsimp only at hr ⊢
    have HRq := hid hr
    obtain ⟨ev', lv', rfl, ⟨a', cap', rfl, _⟩, ⟨la', lcap', _, rfl, _⟩⟩ := hr
    have hst := (Below.refl w6.heap.size w6).alloc (Nat.le_refl _) (.cells #[.int .i64 gr.n, .slice a' gr.es.length cap', .slice la' lr.length lcap'] 40)
    have HRb := hid (HRq.out.below hst)
    have HX5 := hid (Blk.new w6 #[.int .i64 gr.n, .slice a' gr.es.length cap', .slice la' lr.length lcap'] 40)
    have HB6 := hid (up (up HB5.out hB) hst)
    clear hB HRq hst
    dsimp only at HRb
    go_upto_region 15 with fail
    generalize w6.alloc (.cells #[.int .i64 gr.n, .slice a' gr.es.length cap', .slice la' lr.length lcap'] 40) = W6 at *
    generalize w6.heap.size = X5 at *
    obtain ⟨c0, c1, c2, cl⟩ := hcl.out W6 HB6.out
    have b0 : W6.cell? ⟨X5, 0, none⟩ = some (.int .i64 gr.n) := (HX5.out.cell 0).trans rfl
    have b1 : W6.cell? ⟨X5, 1, none⟩ = some (.slice a' gr.es.length cap') := (HX5.out.cell 1).trans rfl
    have b2 : W6.cell? ⟨X5, 2, none⟩ = some (.slice la' lr.length lcap') := (HX5.out.cell 2).trans rfl
    have bl := HX5.out.lt
    have w0 : IntKind.i64.wrap (0 + 0) = 0 := by decide
    go_wp2_with fail
    refine (q_SameRib gr lr _ _ W6 HRb.out (HRA.out _ HB6.out)).mono ?_
    rintro e w7 ⟨rfl, hB⟩
    have HB7 := hid (up HBR.out (up HB6.out hB))
    clear hB
    dsimp only
    go_wp2_with fail
    refine (l_awake w7 (HE.out.below HB7.out)).mono ?_
    rintro e wz ⟨rfl, hB⟩
    dsimp only
    go_wp2_with fail
    go_ret
    exact ⟨rfl, up HB7.out hB⟩
  subst heg
  obtain ⟨hgk, hg0⟩ := HZG.out g pg rfl
  obtain ⟨hb1, tn, hb2, hb3⟩ := graph_back hg0
  have HNG := hid (fun w h => n_Graph g (.agg #[.int .i64 g.n, .slice ga g.es.length gcap]) w h)
  have HNN := hid (p_Normal (graphR g).2)
  have HRG2 := hid (fun w hE => n_ReadGraph (graphR g).2 w hE)
  have HRG3 := hid (fun w hE => n_ReadGraph tn w hE)
  have HCK := hid (fun w h => p_Check g (.agg #[.int .i64 g.n, .slice ga g.es.length gcap]) w h)
  have hck : checkErr g = 0 := hgk
  unfold NormPost at HNN
  rw [hb1] at HRG2
  rw [hb2] at HNN
  rw [hb3] at HRG3
  rw [hck] at HCK
  clear hb1 hb2 hb3 hgk hck HZG
  generalize graphR g = zt at *
  obtain ⟨zt1, zt2⟩ := zt
  dsimp only at hg0
  subst hg0
  unfold limV at HNG
  dsimp only at HNG HNN HRG2 HRG3
  have hcg : Hid (∀ W', Below W1.heap.size W1 W' → W'.cell? ⟨X1, 0, none⟩ = some (.int .i64 g.n) ∧ W'.cell? ⟨X1, 1, none⟩ = some (.slice ga g.es.length gcap) ∧ X1 < W'.heap.size) := fun W' hB =>
    ⟨((HX1.out.below hB).cell 0).trans rfl, ((HX1.out.below hB).cell 1).trans rfl, (HX1.out.below hB).lt⟩
  obtain ⟨c0, c1, cl⟩ := hcg.out W1 (Below.refl _ _)
  go_wp2_with fail
  refine (HNG.out W1 (HGA.out _ (Below.refl _ _))).mono ?_
  rintro e w2 ⟨rfl, hB⟩
  have HB2 := hid hB
  clear hB c0 c1 cl
  dsimp only
  go_upto_region 6 with fail
  go_wp2_with fail
  refine (HNN.out w2).mono ?_
  rintro e w3 ⟨rfl, hB⟩
  have HB3 := hid (up HB2.out hB)
  clear hB HB2
  dsimp only
  go_upto_region 7 with fail
  go_wp2_with fail
  refine (HRG2.out w3 (HE.out.below (up HB1.out HB3.out))).mono ?_
  rintro e w4 ⟨gv, rfl, hg, hB⟩
  dsimp only at hg ⊢
  have HGq := hid hg
  obtain ⟨ev, rfl, xa, xcap, rfl, _⟩ := hg
  have hst := (Below.refl w4.heap.size w4).alloc (Nat.le_refl _) (.cells #[.int .i64 g.n, .slice xa g.es.length xcap] 24)
  have HGx := hid (HGq.out.below hst)
  have HX2 := hid (Blk.new w4 #[.int .i64 g.n, .slice xa g.es.length xcap] 24)
  have HB4 := hid (up (up HB3.out hB) hst)
  clear hB HGq hst HB3
  go_upto_region 8 with fail
  generalize w4.alloc (.cells #[.int .i64 g.n, .slice xa g.es.length xcap] 24) = W4 at *
  generalize w4.heap.size = X2 at *
  go_wp2_with fail
  refine (HRG3.out W4 (HE.out.below (up HB1.out HB4.out))).mono ?_
  rintro e w5 ⟨gv, rfl, hg, hB⟩
  dsimp only at hg ⊢
  have HGq := hid hg
  obtain ⟨ev, rfl, ya, ycap, rfl, _⟩ := hg
  have hst := (Below.refl w5.heap.size w5).alloc (Nat.le_refl _) (.cells #[.int .i64 g.n, .slice ya g.es.length ycap] 24)
  have HGy := hid (HGq.out.below hst)
  have HGx := hid ((HGx.out.below hB).below hst)
  have HX2 := hid ((HX2.out.below hB).below hst)
  have HX3 := hid (Blk.new w5 #[.int .i64 g.n, .slice ya g.es.length ycap] 24)
  have HB5 := hid (up (up HB4.out hB) hst)
  clear hB HGq hst HB4
  go_upto_region 9 with fail
  generalize w5.alloc (.cells #[.int .i64 g.n, .slice ya g.es.length ycap] 24) = W5 at *
  generalize w5.heap.size = X3 at *
  have hcx : Hid (∀ W', Below W5.heap.size W5 W' → W'.cell? ⟨X2, 0, none⟩ = some (.int .i64 g.n) ∧ W'.cell? ⟨X2, 1, none⟩ = some (.slice xa g.es.length xcap) ∧ X2 < W'.heap.size ∧ W'.cell? ⟨X3, 0, none⟩ = some (.int .i64 g.n) ∧ W'.cell? ⟨X3, 1, none⟩ = some (.slice ya g.es.length ycap) ∧ X3 < W'.heap.size) := fun W' hB =>
    ⟨((HX2.out.below hB).cell 0).trans rfl, ((HX2.out.below hB).cell 1).trans rfl, (HX2.out.below hB).lt, ((HX3.out.below hB).cell 0).trans rfl, ((HX3.out.below hB).cell 1).trans rfl, (HX3.out.below hB).lt⟩
  obtain ⟨c0, c1, cl⟩ := hcg.out W5 HB5.out
  have w0 : IntKind.i64.wrap (0 + 0) = 0 := by decide
  go_wp2_with fail
  refine (HCK.out W5 (HGA.out _ HB5.out)).mono ?_
  rintro e w6 ⟨rfl, hB⟩
  have HB6 := hid hB
  clear hB c0 c1 cl
  obtain ⟨c0, c1, cl⟩ := hcg.out w6 (up HB5.out HB6.out)
  obtain ⟨x0, x1, xl, y0, y1, yl⟩ := hcx.out w6 HB6.out
  dsimp only
  go_wp2_with fail
  refine (q_Same g _ _ w6 (HGx.out.below HB6.out) (HGA.out _ (up HB5.out HB6.out))).mono ?_
  rintro e w7 ⟨rfl, hB⟩
  have HB7 := hid (up HB6.out hB)
  clear hB c0 c1 cl x0 x1 xl y0 y1 yl HB6
  obtain ⟨c0, c1, cl⟩ := hcg.out w7 (up HB5.out HB7.out)
  obtain ⟨x0, x1, xl, y0, y1, yl⟩ := hcx.out w7 HB7.out
  dsimp only
  go_wp2_with fail
  refine (q_Same g _ _ w7 (HGy.out.below HB7.out) (HGA.out _ (up HB5.out HB7.out))).mono ?_
  rintro e w8 ⟨rfl, hB⟩
  have HB8 := hid (up HB1.out (up HB5.out (up HB7.out hB)))
  clear hB c0 c1 cl x0 x1 xl y0 y1 yl HB7 HB5 w0
  dsimp only
  go_upto_region 11 with fail
  go_wp2_with fail
  refine (HRR.out w8 (HE.out.below HB8.out)).mono ?_
  rintro e wr ⟨rv, rfl, hr, hB⟩
  obtain ⟨⟨gr, lr⟩, pr, er⟩ := zr
  dsimp only at hr ⊢
  have HRq := hid hr
  obtain ⟨ev, lv, rfl, ⟨a2, cap2, rfl, _⟩, ⟨la2, lcap2, _, rfl, _⟩⟩ := hr
  have hst := (Below.refl wr.heap.size wr).alloc (Nat.le_refl _) (.cells #[.int .i64 gr.n, .slice a2 gr.es.length cap2, .slice la2 lr.length lcap2] 40)
  have HRA : Hid (∀ W, Below (wr.alloc (.cells #[.int .i64 gr.n, .slice a2 gr.es.length cap2, .slice la2 lr.length lcap2] 40)).heap.size (wr.alloc (.cells #[.int .i64 gr.n, .slice a2 gr.es.length cap2, .slice la2 lr.length lcap2] 40)) W → RibR W (.agg #[.int .i64 gr.n, .slice a2 gr.es.length cap2, .slice la2 lr.length lcap2]) (gr, lr)) := fun W hW => (HRq.out.below hst).below hW
  have HX4 := hid (Blk.new wr #[.int .i64 gr.n, .slice a2 gr.es.length cap2, .slice la2 lr.length lcap2] 40)
  have HBR := hid (up (up HB8.out hB) hst)
  clear hB HRq hst
  go_upto_region 12 with fail
  generalize wr.alloc (.cells #[.int .i64 gr.n, .slice a2 gr.es.length cap2, .slice la2 lr.length lcap2] 40) = W4 at *
  generalize wr.heap.size = X4 at *
  by_cases her : er = 0
  case neg =>
    have her1 : (er == 0) = false := by simpa using her
    clear her
    go_wp2_with fail
    refine (l_awake W4 (HE.out.below HBR.out)).mono ?_
    rintro e wz ⟨rfl, hB⟩
    dsimp only
    go_wp2_with fail
    go_ret
    exact ⟨rfl, up HBR.out hB⟩
  subst her
  obtain ⟨hr1, hr2, hr3, hr4⟩ := HZR.out gr lr pr rfl
  have HNR := hid (fun w hE h => n_Ribbon gr lr (.agg #[.int .i64 gr.n, .slice a2 gr.es.length cap2, .slice la2 lr.length lcap2]) w hE h hr3 hr4)
  have HRR2 := hid (fun w h => n_ReadRibbon (ribR gr lr).2 w h)
  rw [hr2] at HRR2
  generalize ribR gr lr = zt at *
  obtain ⟨zt1, zt2⟩ := zt
  dsimp only at hr1
  subst hr1
  unfold limV at HNR
  dsimp only at HNR HRR2
  clear hr2 hr3 hr4
  have hcl : Hid (∀ W', Below W4.heap.size W4 W' → W'.cell? ⟨X4, 0, none⟩ = some (.int .i64 gr.n) ∧ W'.cell? ⟨X4, 1, none⟩ = some (.slice a2 gr.es.length cap2) ∧ W'.cell? ⟨X4, 2, none⟩ = some (.slice la2 lr.length lcap2) ∧ X4 < W'.heap.size) := fun W' hB =>
    ⟨((HX4.out.below hB).cell 0).trans rfl, ((HX4.out.below hB).cell 1).trans rfl, ((HX4.out.below hB).cell 2).trans rfl, (HX4.out.below hB).lt⟩
  obtain ⟨c0, c1, c2, cl⟩ := hcl.out W4 (Below.refl _ _)
  go_wp2_with fail
  refine (HNR.out W4 (HE.out.below HBR.out) (HRA.out _ (Below.refl _ _))).mono ?_
  rintro e w5 ⟨rfl, hB5⟩
  have HB5 := hid hB5
  clear hB5 c0 c1 c2 cl
  dsimp only
  go_upto_region 14 with fail
  go_wp2_with fail
  refine (HRR2.out w5 (HE.out.below (up HBR.out HB5.out))).mono ?_
  rintro e w6 ⟨rv, rfl, hr, hB⟩
  dsimp only at hr ⊢
  have HRq := hid hr
  obtain ⟨ev', lv', rfl, ⟨a', cap', rfl, _⟩, ⟨la', lcap', _, rfl, _⟩⟩ := hr
  have hst := (Below.refl w6.heap.size w6).alloc (Nat.le_refl _) (.cells #[.int .i64 gr.n, .slice a' gr.es.length cap', .slice la' lr.length lcap'] 40)
  have HRb := hid (HRq.out.below hst)
  have HX5 := hid (Blk.new w6 #[.int .i64 gr.n, .slice a' gr.es.length cap', .slice la' lr.length lcap'] 40)
  have HB6 := hid (up (up HB5.out hB) hst)
  clear hB HRq hst
  dsimp only at HRb
  go_upto_region 15 with fail
  generalize w6.alloc (.cells #[.int .i64 gr.n, .slice a' gr.es.length cap', .slice la' lr.length lcap'] 40) = W6 at *
  generalize w6.heap.size = X5 at *
  obtain ⟨c0, c1, c2, cl⟩ := hcl.out W6 HB6.out
  have b0 : W6.cell? ⟨X5, 0, none⟩ = some (.int .i64 gr.n) := (HX5.out.cell 0).trans rfl
  have b1 : W6.cell? ⟨X5, 1, none⟩ = some (.slice a' gr.es.length cap') := (HX5.out.cell 1).trans rfl
  have b2 : W6.cell? ⟨X5, 2, none⟩ = some (.slice la' lr.length lcap') := (HX5.out.cell 2).trans rfl
  have bl := HX5.out.lt
  have w0 : IntKind.i64.wrap (0 + 0) = 0 := by decide
  go_wp2_with fail
  refine (q_SameRib gr lr _ _ W6 HRb.out (HRA.out _ HB6.out)).mono ?_
  rintro e w7 ⟨rfl, hB⟩
  have HB7 := hid (up HBR.out (up HB6.out hB))
  clear hB
  dsimp only
  go_wp2_with fail
  refine (l_awake w7 (HE.out.below HB7.out)).mono ?_
  rintro e wz ⟨rfl, hB⟩
  dsimp only
  go_wp2_with fail
  go_ret
  exact ⟨rfl, up HB7.out hB⟩

end Go.Proofs.YtemmepgfngkgmaaGreatDoor
