/-
  The walk of NotationReturns.
-/
import Derived.Test.YtemmepgfngkgmaaGreatDoorN63
import Derived.Test.YtemmepgfngkgmaaGreatDoorN44
import Derived.Test.YtemmepgfngkgmaaGreatDoorN56
namespace Go.Proofs.YtemmepgfngkgmaaGreatDoor
open Go.RowKit
set_option linter.unusedVariables false
set_option linter.unusedSimpArgs false

def wScript : List UInt8 := [115, 99, 114, 105, 112, 116]
set_option maxRecDepth 100000 in
set_option maxHeartbeats 16000000 in
theorem l_NReturns (g d : G) (l : List Int) (gv dv lv : Value) (w : World) (hE : Env w) (hg : GrR w gv g) (hd : GrR w dv d) (hl : IntsR w lv l) :
    Calls Tryz.prog 9 #[gv, dv, lv] w fun e w' => e = .returned (.bool true) ∧ Below w.heap.size w w' := by
  have HE := hid hE
  have HG := hid hg
  have HD := hid hd
  have HL := hid hl
  obtain ⟨ev, rfl, ga, gcap, rfl, _⟩ := hg
  obtain ⟨ev', rfl, da, dcap, rfl, _⟩ := hd
  obtain ⟨la, lcap, rfl, _⟩ := hl
  have hgb := hid ((Blk.new w #[.int .i64 g.n, .slice ga g.es.length gcap] 24).alloc (.cells #[.int .i64 d.n, .slice da d.es.length dcap] 61))
  have hdb0 := Blk.new (w.alloc (.cells #[.int .i64 g.n, .slice ga g.es.length gcap] 24)) #[.int .i64 d.n, .slice da d.es.length dcap] 61
  rw [World.size_alloc] at hdb0
  have hdb := hid hdb0
  have HB0 := hid (((Below.refl w.heap.size w).alloc (Nat.le_refl _) (.cells #[.int .i64 g.n, .slice ga g.es.length gcap] 24)).alloc (by simp) (.cells #[.int .i64 d.n, .slice da d.es.length dcap] 61))
  have HGA : Hid (∀ W, Below w.heap.size w W → GrR W (.agg #[.int .i64 g.n, .slice ga g.es.length gcap]) g) := fun W hB => HG.out.below hB
  have HDA : Hid (∀ W, Below w.heap.size w W → GrR W (.agg #[.int .i64 d.n, .slice da d.es.length dcap]) d) := fun W hB => HD.out.below hB
  have HLA : Hid (∀ W, Below w.heap.size w W → IntsR W (.slice la l.length lcap) l) := fun W hB => HL.out.below hB
  clear hE hdb0 HG HD HL
  go_enter Tryz.func9, Tryz.ntmps9
  go_upto_region 1 with fail
  (try dsimp only)
  generalize (w.alloc (.cells #[.int .i64 g.n, .slice ga g.es.length gcap] 24)).alloc (.cells #[.int .i64 d.n, .slice da d.es.length dcap] 61) = W0 at *
  have hcg : Hid (∀ W', Below W0.heap.size W0 W' → W'.cell? ⟨w.heap.size, 0, none⟩ = some (.int .i64 g.n) ∧ W'.cell? ⟨w.heap.size, 1, none⟩ = some (.slice ga g.es.length gcap) ∧ w.heap.size < W'.heap.size) := fun W' hB =>
    ⟨((hgb.out.below hB).cell 0).trans rfl, ((hgb.out.below hB).cell 1).trans rfl, (hgb.out.below hB).lt⟩
  have hcd : Hid (∀ W', Below W0.heap.size W0 W' → W'.cell? ⟨w.heap.size + 1, 0, none⟩ = some (.int .i64 d.n) ∧ W'.cell? ⟨w.heap.size + 1, 1, none⟩ = some (.slice da d.es.length dcap) ∧ w.heap.size + 1 < W'.heap.size) := fun W' hB =>
    ⟨((hdb.out.below hB).cell 0).trans rfl, ((hdb.out.below hB).cell 1).trans rfl, (hdb.out.below hB).lt⟩
  have HBZ := hid (Below.refl W0.heap.size W0)
  obtain ⟨c0, c1, cl⟩ := hcg.out W0 (Below.refl _ _)
  go_wp2_with fail
  refine (r9_FewGraph g _ W0 (HGA.out _ HB0.out)).mono ?_
  rintro e w1 ⟨rfl, hB⟩
  have HB1 := hid hB
  clear hB c0 c1 cl
  dsimp only
  cases decide (g.es.length ≤ 100) with
  | false =>
    go_wp2_with fail
    refine (l_awake w1 (HE.out.below (up HB0.out HB1.out))).mono ?_
    rintro e wz ⟨rfl, hB⟩
    dsimp only
    go_wp2_with fail
    go_ret
    exact ⟨rfl, up (up HB0.out HB1.out) hB⟩
  | true =>
    obtain ⟨d0, d1, dl⟩ := hcd.out w1 HB1.out
    go_wp2_with fail
    refine (q_FewDigraph d _ w1 (HDA.out _ (up HB0.out HB1.out))).mono ?_
    rintro e w2 ⟨rfl, hB⟩
    have HB2 := hid (up HB1.out hB)
    clear hB d0 d1 dl HB1
    dsimp only
    cases decide (d.es.length ≤ 160) with
    | false =>
      go_wp2_with fail
      refine (l_awake w2 (HE.out.below (up HB0.out HB2.out))).mono ?_
      rintro e wz ⟨rfl, hB⟩
      dsimp only
      go_wp2_with fail
      go_ret
      exact ⟨rfl, up (up HB0.out HB2.out) hB⟩
    | true =>
      by_cases hll : 256 < l.length
      case pos =>
        have hll' : (256 : Int) < (l.length : Int) := by omega
        go_wp2_with fail
        refine (l_awake w2 (HE.out.below (up HB0.out HB2.out))).mono ?_
        rintro e wz ⟨rfl, hB⟩
        dsimp only
        go_wp2_with fail
        go_ret
        exact ⟨rfl, up (up HB0.out HB2.out) hB⟩
      have hll' : ¬ (256 : Int) < (l.length : Int) := by omega
      obtain ⟨c0, c1, cl⟩ := hcg.out w2 HB2.out
      have HXG := hid (graph_back (g := g))
      have HXD := hid (digraph_back (g := d))
      have HXI := hid (ints_back (word := wScript) (l := l) (by decide))
      have HNG := hid (fun w h => n_Graph g (.agg #[.int .i64 g.n, .slice ga g.es.length gcap]) w h)
      have HND := hid (fun w h => n_Digraph d (.agg #[.int .i64 d.n, .slice da d.es.length dcap]) w h)
      have HNI := hid (fun w hE h => n_Ints wScript l (.slice la l.length lcap) w hE h (by decide))
      have HRG := hid (fun w hE => n_ReadGraph (graphR g).2 w hE)
      have HRD := hid (fun w hE => n_ReadDigraph (digraphR d).2 w hE)
      have HRI := hid (fun w hE => n_ReadInts (intsR wScript l).2 w hE)
      have HNR := hid (p_Normal (intsR wScript l).2)
      generalize graphR g = zg at *
      generalize digraphR d = zd at *
      generalize intsR wScript l = zi at *
      obtain ⟨zg1, zg2⟩ := zg
      obtain ⟨zd1, zd2⟩ := zd
      obtain ⟨zi1, zi2⟩ := zi
      unfold limV at HNG HND HNI
      dsimp only at HNG HND HNI HXG HXD HXI HRG HRD HRI HNR
      unfold NormPost at HNR
      go_wp2_with fail
      refine (HNG.out w2 (HGA.out _ (up HB0.out HB2.out))).mono ?_
      rintro e w3 ⟨rfl, hB⟩
      have HB3 := hid (up HB2.out hB)
      clear hB c0 c1 cl HB2
      dsimp only
      by_cases hg0 : zg1 = 0
      case neg =>
        have hg1 : (zg1 == 0) = false := by simpa using hg0
        clear hg0
        go_upto_region 8 with fail
        obtain ⟨d0, d1, dl⟩ := hcd.out w3 HB3.out
        go_wp2_with fail
        refine (HND.out w3 (HDA.out _ (up HB0.out HB3.out))).mono ?_
        rintro e wd ⟨rfl, hB⟩
        have HBD := hid (up HB3.out hB)
        clear hB d0 d1 dl
        dsimp only
        by_cases hd : zd1 = 0
        case neg =>
          have hd1 : (zd1 == 0) = false := by simpa using hd
          clear hd
          go_upto_region 13 with fail
          go_wp2_with fail
          refine (HNI.out wd (HE.out.below (up HB0.out HBD.out)) (HLA.out _ (up HB0.out HBD.out))).mono ?_
          rintro e wi ⟨rfl, hB⟩
          have HBI := hid (up HBD.out hB)
          clear hB
          dsimp only
          by_cases hi : zi1 = 0
          case neg =>
            have hi1 : (zi1 != 0) = true := by simpa using hi
            clear hi
            go_wp2_with fail
            refine (l_awake wi (HE.out.below (up HB0.out HBI.out))).mono ?_
            rintro e wz ⟨rfl, hB⟩
            dsimp only
            go_wp2_with fail
            go_ret
            exact ⟨rfl, up (up HB0.out HBI.out) hB⟩
          subst hi
          obtain ⟨hri, tn, hnn⟩ := HXI.out rfl
          go_wp2_with fail
          refine (HRI.out wi (HE.out.below (up HB0.out HBI.out))).mono ?_
          intro e wr h3
          rw [hri] at h3
          obtain ⟨⟨v3, rfl, hv3⟩, hB⟩ := h3
          have HBR := hid (up HBI.out hB)
          have HV3 := hid hv3
          clear hB hv3
          dsimp only
          rw [show str wScript = ({ data := #[115, 99, 114, 105, 112, 116] } : ByteArray) from rfl]
          go_wp2_with fail
          refine (HNR.out wr).mono ?_
          rintro e wn ⟨rfl, hB⟩
          rw [hnn]
          have HBN := hid (up HBR.out hB)
          have HV4 := hid (HV3.out.below hB)
          clear hB HBR HV3
          have w0 : IntKind.i64.wrap (0 + 0) = 0 := by decide
          have q1 : (({ data := #[115, 99, 114, 105, 112, 116] } : ByteArray).toList == ({ data := #[115, 99, 114, 105, 112, 116] } : ByteArray).toList) = true := beq_self_eq_true _
          dsimp only
          go_wp2_with fail
          refine (c_Equal_eq l (.slice la l.length lcap) v3 wn (HLA.out _ (up HB0.out HBN.out)) HV4.out).mono ?_
          rintro e wq ⟨rfl, hB⟩
          have HBQ := hid (up HBN.out hB)
          clear hB
          dsimp only
          go_wp2_with fail
          refine (l_awake wq (HE.out.below (up HB0.out HBQ.out))).mono ?_
          rintro e wz ⟨rfl, hB⟩
          dsimp only
          go_wp2_with fail
          go_ret
          exact ⟨rfl, up (up HB0.out HBQ.out) hB⟩
        subst hd
        have hrd := HXD.out rfl
        go_wp2_with fail
        refine (HRD.out wd (HE.out.below (up HB0.out HBD.out))).mono ?_
        rintro e wx ⟨gv, rfl, hg, hB⟩
        rw [hrd] at hg ⊢
        have HGq := hid hg
        obtain ⟨ev, rfl, a2, cap2, rfl, _⟩ := hg
        have hst := (Below.refl wx.heap.size wx).alloc (Nat.le_refl _) (.cells #[.int .i64 d.n, .slice a2 d.es.length cap2] 61)
        have HG1 := hid (HGq.out.below hst)
        have HX1 := hid (Blk.new wx #[.int .i64 d.n, .slice a2 d.es.length cap2] 61)
        have HBX := hid (up (up HBD.out hB) hst)
        clear hB HGq hst
        dsimp only
        go_upto_region 11 with fail
        generalize wx.alloc (.cells #[.int .i64 d.n, .slice a2 d.es.length cap2] 61) = WX at *
        generalize wx.heap.size = X1 at *
        obtain ⟨d0, d1, dl⟩ := hcd.out WX HBX.out
        have a0 : WX.cell? ⟨X1, 0, none⟩ = some (.int .i64 d.n) := (HX1.out.cell 0).trans rfl
        have a1 : WX.cell? ⟨X1, 1, none⟩ = some (.slice a2 d.es.length cap2) := (HX1.out.cell 1).trans rfl
        have al := HX1.out.lt
        go_wp2_with fail
        refine (q_SameD d _ _ WX HG1.out (HDA.out _ (up HB0.out HBX.out))).mono ?_
        rintro e ws ⟨rfl, hB⟩
        have HBS := hid (up HBX.out hB)
        clear hB d0 d1 dl a0 a1 al HX1 HG1 HBX
        dsimp only
        go_upto_region 13 with fail
        go_wp2_with fail
        refine (HNI.out ws (HE.out.below (up HB0.out HBS.out)) (HLA.out _ (up HB0.out HBS.out))).mono ?_
        rintro e wi ⟨rfl, hB⟩
        have HBI := hid (up HBS.out hB)
        clear hB
        dsimp only
        by_cases hi : zi1 = 0
        case neg =>
          have hi1 : (zi1 != 0) = true := by simpa using hi
          clear hi
          go_wp2_with fail
          refine (l_awake wi (HE.out.below (up HB0.out HBI.out))).mono ?_
          rintro e wz ⟨rfl, hB⟩
          dsimp only
          go_wp2_with fail
          go_ret
          exact ⟨rfl, up (up HB0.out HBI.out) hB⟩
        subst hi
        obtain ⟨hri, tn, hnn⟩ := HXI.out rfl
        go_wp2_with fail
        refine (HRI.out wi (HE.out.below (up HB0.out HBI.out))).mono ?_
        intro e wr h3
        rw [hri] at h3
        obtain ⟨⟨v3, rfl, hv3⟩, hB⟩ := h3
        have HBR := hid (up HBI.out hB)
        have HV3 := hid hv3
        clear hB hv3
        dsimp only
        rw [show str wScript = ({ data := #[115, 99, 114, 105, 112, 116] } : ByteArray) from rfl]
        go_wp2_with fail
        refine (HNR.out wr).mono ?_
        rintro e wn ⟨rfl, hB⟩
        rw [hnn]
        have HBN := hid (up HBR.out hB)
        have HV4 := hid (HV3.out.below hB)
        clear hB HBR HV3
        have w0 : IntKind.i64.wrap (0 + 0) = 0 := by decide
        have q1 : (({ data := #[115, 99, 114, 105, 112, 116] } : ByteArray).toList == ({ data := #[115, 99, 114, 105, 112, 116] } : ByteArray).toList) = true := beq_self_eq_true _
        dsimp only
        go_wp2_with fail
        refine (c_Equal_eq l (.slice la l.length lcap) v3 wn (HLA.out _ (up HB0.out HBN.out)) HV4.out).mono ?_
        rintro e wq ⟨rfl, hB⟩
        have HBQ := hid (up HBN.out hB)
        clear hB
        dsimp only
        go_wp2_with fail
        refine (l_awake wq (HE.out.below (up HB0.out HBQ.out))).mono ?_
        rintro e wz ⟨rfl, hB⟩
        dsimp only
        go_wp2_with fail
        go_ret
        exact ⟨rfl, up (up HB0.out HBQ.out) hB⟩
      subst hg0
      have hrg := (HXG.out rfl).1
      go_wp2_with fail
      refine (HRG.out w3 (HE.out.below (up HB0.out HB3.out))).mono ?_
      rintro e w4 ⟨gv, rfl, hg, hB⟩
      rw [hrg] at hg ⊢
      have HGq := hid hg
      obtain ⟨ev, rfl, a2, cap2, rfl, _⟩ := hg
      have hst := (Below.refl w4.heap.size w4).alloc (Nat.le_refl _) (.cells #[.int .i64 g.n, .slice a2 g.es.length cap2] 24)
      have HG1 := hid (HGq.out.below hst)
      have HX1 := hid (Blk.new w4 #[.int .i64 g.n, .slice a2 g.es.length cap2] 24)
      have HB4 := hid (up (up HB3.out hB) hst)
      clear hB HGq hst
      dsimp only
      go_upto_region 6 with fail
      generalize w4.alloc (.cells #[.int .i64 g.n, .slice a2 g.es.length cap2] 24) = W4 at *
      generalize w4.heap.size = X1 at *
      obtain ⟨c0, c1, cl⟩ := hcg.out W4 HB4.out
      have a0 : W4.cell? ⟨X1, 0, none⟩ = some (.int .i64 g.n) := (HX1.out.cell 0).trans rfl
      have a1 : W4.cell? ⟨X1, 1, none⟩ = some (.slice a2 g.es.length cap2) := (HX1.out.cell 1).trans rfl
      have al := HX1.out.lt
      go_wp2_with fail
      refine (q_Same g _ _ W4 HG1.out (HGA.out _ (up HB0.out HB4.out))).mono ?_
      rintro e w5 ⟨rfl, hB⟩
      have HB5 := hid (up HB4.out hB)
      clear hB c0 c1 cl a0 a1 al HX1 HG1 HB4 HB3
      dsimp only
      go_upto_region 8 with fail
      obtain ⟨d0, d1, dl⟩ := hcd.out w5 HB5.out
      go_wp2_with fail
      refine (HND.out w5 (HDA.out _ (up HB0.out HB5.out))).mono ?_
      rintro e wd ⟨rfl, hB⟩
      have HBD := hid (up HB5.out hB)
      clear hB d0 d1 dl
      dsimp only
      by_cases hd : zd1 = 0
      case neg =>
        have hd1 : (zd1 == 0) = false := by simpa using hd
        clear hd
        go_upto_region 13 with fail
        go_wp2_with fail
        refine (HNI.out wd (HE.out.below (up HB0.out HBD.out)) (HLA.out _ (up HB0.out HBD.out))).mono ?_
        rintro e wi ⟨rfl, hB⟩
        have HBI := hid (up HBD.out hB)
        clear hB
        dsimp only
        by_cases hi : zi1 = 0
        case neg =>
          have hi1 : (zi1 != 0) = true := by simpa using hi
          clear hi
          go_wp2_with fail
          refine (l_awake wi (HE.out.below (up HB0.out HBI.out))).mono ?_
          rintro e wz ⟨rfl, hB⟩
          dsimp only
          go_wp2_with fail
          go_ret
          exact ⟨rfl, up (up HB0.out HBI.out) hB⟩
        subst hi
        obtain ⟨hri, tn, hnn⟩ := HXI.out rfl
        go_wp2_with fail
        refine (HRI.out wi (HE.out.below (up HB0.out HBI.out))).mono ?_
        intro e wr h3
        rw [hri] at h3
        obtain ⟨⟨v3, rfl, hv3⟩, hB⟩ := h3
        have HBR := hid (up HBI.out hB)
        have HV3 := hid hv3
        clear hB hv3
        dsimp only
        rw [show str wScript = ({ data := #[115, 99, 114, 105, 112, 116] } : ByteArray) from rfl]
        go_wp2_with fail
        refine (HNR.out wr).mono ?_
        rintro e wn ⟨rfl, hB⟩
        rw [hnn]
        have HBN := hid (up HBR.out hB)
        have HV4 := hid (HV3.out.below hB)
        clear hB HBR HV3
        have w0 : IntKind.i64.wrap (0 + 0) = 0 := by decide
        have q1 : (({ data := #[115, 99, 114, 105, 112, 116] } : ByteArray).toList == ({ data := #[115, 99, 114, 105, 112, 116] } : ByteArray).toList) = true := beq_self_eq_true _
        dsimp only
        go_wp2_with fail
        refine (c_Equal_eq l (.slice la l.length lcap) v3 wn (HLA.out _ (up HB0.out HBN.out)) HV4.out).mono ?_
        rintro e wq ⟨rfl, hB⟩
        have HBQ := hid (up HBN.out hB)
        clear hB
        dsimp only
        go_wp2_with fail
        refine (l_awake wq (HE.out.below (up HB0.out HBQ.out))).mono ?_
        rintro e wz ⟨rfl, hB⟩
        dsimp only
        go_wp2_with fail
        go_ret
        exact ⟨rfl, up (up HB0.out HBQ.out) hB⟩
      subst hd
      have hrd := HXD.out rfl
      go_wp2_with fail
      refine (HRD.out wd (HE.out.below (up HB0.out HBD.out))).mono ?_
      rintro e wx ⟨gv, rfl, hg, hB⟩
      rw [hrd] at hg ⊢
      have HGq := hid hg
      obtain ⟨ev, rfl, a2, cap2, rfl, _⟩ := hg
      have hst := (Below.refl wx.heap.size wx).alloc (Nat.le_refl _) (.cells #[.int .i64 d.n, .slice a2 d.es.length cap2] 61)
      have HG1 := hid (HGq.out.below hst)
      have HX1 := hid (Blk.new wx #[.int .i64 d.n, .slice a2 d.es.length cap2] 61)
      have HBX := hid (up (up HBD.out hB) hst)
      clear hB HGq hst
      dsimp only
      go_upto_region 11 with fail
      generalize wx.alloc (.cells #[.int .i64 d.n, .slice a2 d.es.length cap2] 61) = WX at *
      generalize wx.heap.size = X1 at *
      obtain ⟨d0, d1, dl⟩ := hcd.out WX HBX.out
      have a0 : WX.cell? ⟨X1, 0, none⟩ = some (.int .i64 d.n) := (HX1.out.cell 0).trans rfl
      have a1 : WX.cell? ⟨X1, 1, none⟩ = some (.slice a2 d.es.length cap2) := (HX1.out.cell 1).trans rfl
      have al := HX1.out.lt
      go_wp2_with fail
      refine (q_SameD d _ _ WX HG1.out (HDA.out _ (up HB0.out HBX.out))).mono ?_
      rintro e ws ⟨rfl, hB⟩
      have HBS := hid (up HBX.out hB)
      clear hB d0 d1 dl a0 a1 al HX1 HG1 HBX
      dsimp only
      go_upto_region 13 with fail
      go_wp2_with fail
      refine (HNI.out ws (HE.out.below (up HB0.out HBS.out)) (HLA.out _ (up HB0.out HBS.out))).mono ?_
      rintro e wi ⟨rfl, hB⟩
      have HBI := hid (up HBS.out hB)
      clear hB
      dsimp only
      by_cases hi : zi1 = 0
      case neg =>
        have hi1 : (zi1 != 0) = true := by simpa using hi
        clear hi
        go_wp2_with fail
        refine (l_awake wi (HE.out.below (up HB0.out HBI.out))).mono ?_
        rintro e wz ⟨rfl, hB⟩
        dsimp only
        go_wp2_with fail
        go_ret
        exact ⟨rfl, up (up HB0.out HBI.out) hB⟩
      subst hi
      obtain ⟨hri, tn, hnn⟩ := HXI.out rfl
      go_wp2_with fail
      refine (HRI.out wi (HE.out.below (up HB0.out HBI.out))).mono ?_
      intro e wr h3
      rw [hri] at h3
      obtain ⟨⟨v3, rfl, hv3⟩, hB⟩ := h3
      have HBR := hid (up HBI.out hB)
      have HV3 := hid hv3
      clear hB hv3
      dsimp only
      rw [show str wScript = ({ data := #[115, 99, 114, 105, 112, 116] } : ByteArray) from rfl]
      go_wp2_with fail
      refine (HNR.out wr).mono ?_
      rintro e wn ⟨rfl, hB⟩
      rw [hnn]
      have HBN := hid (up HBR.out hB)
      have HV4 := hid (HV3.out.below hB)
      clear hB HBR HV3
      have w0 : IntKind.i64.wrap (0 + 0) = 0 := by decide
      have q1 : (({ data := #[115, 99, 114, 105, 112, 116] } : ByteArray).toList == ({ data := #[115, 99, 114, 105, 112, 116] } : ByteArray).toList) = true := beq_self_eq_true _
      dsimp only
      go_wp2_with fail
      refine (c_Equal_eq l (.slice la l.length lcap) v3 wn (HLA.out _ (up HB0.out HBN.out)) HV4.out).mono ?_
      rintro e wq ⟨rfl, hB⟩
      have HBQ := hid (up HBN.out hB)
      clear hB
      dsimp only
      go_wp2_with fail
      refine (l_awake wq (HE.out.below (up HB0.out HBQ.out))).mono ?_
      rintro e wz ⟨rfl, hB⟩
      dsimp only
      go_wp2_with fail
      go_ret
      exact ⟨rfl, up (up HB0.out HBQ.out) hB⟩

end Go.Proofs.YtemmepgfngkgmaaGreatDoor
