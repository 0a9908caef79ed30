/-
  ref08.Same at equal graphs; the walk of NotationReads.
-/
import Derived.Test.YtemmepgfngkgmaaGreatDoorN41
import Derived.Test.YtemmepgfngkgmaaGreatDoorN31
namespace Go.Proofs.YtemmepgfngkgmaaGreatDoor
open Go.RowKit
set_option linter.unusedVariables false
set_option linter.unusedSimpArgs false

def RetB0 (w : World) (e : Ending) (w' : World) : Prop := ∃ b, e = .returned (.bool b) ∧ w = w'
theorem r9_FewText0 (t : List UInt8) (w : World) : Calls Tryz.prog 15 #[.string (str t)] w (RetB0 w) := by
  have hs := str_size t
  by_cases h1 : t.length ≤ 1500
  · have h' : ((str t).size : Int) ≤ 1500 := by omega
    go_enter Tryz.func15, Tryz.ntmps15
    go_wp2_with fail
    go_ret
    exact ⟨_, rfl, rfl⟩
  · have h' : ¬ ((str t).size : Int) ≤ 1500 := by omega
    by_cases h2 : 4096 < t.length
    · have h2' : (4096 : Int) < ((str t).size : Int) := by omega
      go_enter Tryz.func15, Tryz.ntmps15
      go_wp2_with fail
      go_ret
      exact ⟨_, rfl, rfl⟩
    · have h2' : ¬ (4096 : Int) < ((str t).size : Int) := by omega
      go_enter Tryz.func15, Tryz.ntmps15
      go_wp2_with fail
      go_ret
      exact ⟨_, rfl, rfl⟩

set_option maxRecDepth 100000 in
set_option maxHeartbeats 4000000 in
theorem q_Same (g : G) (av bv : Value) (w : World) (ha : GrR w av g) (hb : GrR w bv g) :
    Calls Tryz.prog 18 #[av, bv] w fun e w' => e = .returned (.bool true) ∧ Below w.heap.size w w' := by
  obtain ⟨ev, rfl, hE⟩ := ha
  obtain ⟨ev', rfl, hE'⟩ := hb
  have HE := hid hE
  have HE' := hid hE'
  obtain ⟨a, cap, rfl, _⟩ := hE
  obtain ⟨a', cap', rfl, _⟩ := hE'
  have hA := hid ((Blk.new w #[.int .i64 g.n, .slice a g.es.length cap] 24).alloc (.cells #[.int .i64 g.n, .slice a' g.es.length cap'] 24))
  have hBb := Blk.new (w.alloc (.cells #[.int .i64 g.n, .slice a g.es.length cap] 24)) #[.int .i64 g.n, .slice a' g.es.length cap'] 24
  rw [World.size_alloc] at hBb
  have hB := hid hBb
  have HB0 := hid (((Below.refl w.heap.size w).alloc (Nat.le_refl _) (.cells #[.int .i64 g.n, .slice a g.es.length cap] 24)).alloc (by simp) (.cells #[.int .i64 g.n, .slice a' g.es.length cap'] 24))
  clear hBb
  have q1 : (g.n != g.n) = false := by simp
  have q2 : ((g.es.length : Int) != (g.es.length : Int)) = false := by simp
  go_enter Tryz.func18, Tryz.ntmps18
  go_upto_region 1 with fail
  generalize (w.alloc (.cells #[.int .i64 g.n, .slice a g.es.length cap] 24)).alloc (.cells #[.int .i64 g.n, .slice a' g.es.length cap'] 24) = W0 at *
  have a0 : W0.cell? ⟨w.heap.size, 0, none⟩ = some (.int .i64 g.n) := (hA.out.cell 0).trans rfl
  have a1 : W0.cell? ⟨w.heap.size, 1, none⟩ = some (.slice a g.es.length cap) := (hA.out.cell 1).trans rfl
  have b0 : W0.cell? ⟨w.heap.size + 1, 0, none⟩ = some (.int .i64 g.n) := (hB.out.cell 0).trans rfl
  have b1 : W0.cell? ⟨w.heap.size + 1, 1, none⟩ = some (.slice a' g.es.length cap') := (hB.out.cell 1).trans rfl
  have al := hA.out.lt
  have bl := hB.out.lt
  have HE0 := hid (HE.out.below HB0.out)
  have HE0' := hid (HE'.out.below HB0.out)
  go_wp2_with fail
  go_loopw [5] (fun i wr => ∃ k : Nat, k ≤ g.es.length ∧ i = .int .i64 k ∧ Hid (Below W0.heap.size W0 wr)) (fun i _ => g.es.length - (intOf i).toNat)
  case atStart => exact ⟨0, Nat.zero_le _, rfl, Below.refl _ _⟩
  case round =>
    obtain ⟨k, hkn, rfl, HBr⟩ := hrel
    have a1 : wr.cell? ⟨w.heap.size, 1, none⟩ = some (.slice a g.es.length cap) := ((hA.out.below HBr.out).cell 1).trans rfl
    have b1 : wr.cell? ⟨w.heap.size + 1, 1, none⟩ = some (.slice a' g.es.length cap') := ((hB.out.below HBr.out).cell 1).trans rfl
    have al := (hA.out.below HBr.out).lt
    have bl := (hB.out.below HBr.out).lt
    by_cases hlt : k < g.es.length
    · have hlt' : (k : Int) < (g.es.length : Int) := by omega
      have hk0 : (0 : Int) ≤ (k : Int) := by omega
      obtain ⟨x1, x2, ea, _, _, _, hc⟩ := HE0.out.below HBr.out
      injection ea with ea1 _ ea3
      subst ea1 ea3
      obtain ⟨b, off, rfl, hb, hc⟩ := hc.edge (by omega)
      obtain ⟨c0, c1, c2⟩ := hc k hlt
      obtain ⟨y1, y2, eb, _, _, _, hd⟩ := HE0'.out.below HBr.out
      injection eb with eb1 _ eb3
      subst eb1 eb3
      obtain ⟨b', off', rfl, hb', hd⟩ := hd.edge (by omega)
      obtain ⟨d0, d1, d2⟩ := hd k hlt
      clear hc hd
      generalize g.es[k]?.getD default = x at *
      obtain ⟨xa, xb, xm⟩ := x
      dsimp only at c0 c1 c2 d0 d1 d2
      have p1 : (xa == xa) = true := by simp
      have p2 : (xb == xb) = true := by simp
      have p3 : (xm == xm) = true := by simp
      go_wp2_with fail
      go_quiet (fail)
      go_wp2_with fail
      exact ⟨⟨k + 1, by omega, by go_num, below_dN HBr.out _⟩, by simp [intOf]; omega⟩
    · obtain rfl : k = g.es.length := by omega
      have hlt' : ¬ (g.es.length : Int) < (g.es.length : Int) := by omega
      go_wp2_with fail
      go_ret
      exact ⟨rfl, HB0.out.trans (HBr.out.mono HB0.out.size)⟩

set_option maxRecDepth 100000 in
set_option maxHeartbeats 4000000 in
theorem l_Reads (text : List UInt8) (w : World) (hE : Env w) :
    Calls Tryz.prog 4 #[.string (str text)] w fun e w' => e = .returned (.bool true) ∧ Below w.heap.size w w' := by
  have HE := hid hE
  clear hE
  have HA := hid (l_awake w HE.out)
  have HF := hid (r9_FewText0 text w)
  have HN := hid (fun w h => n_ReadGraph text w h)
  have HR := hid (fun w => q_ReadGraph text w)
  generalize tableP wGraph 45 true (opened (scanR text)) = z at *
  go_enter Tryz.func4, Tryz.ntmps4
  go_wp2_with fail
  refine HF.out.mono ?_
  rintro e w1 ⟨bt, rfl, rfl⟩
  dsimp only
  cases bt with
  | false =>
    go_wp2_with fail
    refine HA.out.mono ?_
    rintro e w1 ⟨rfl, hB⟩
    dsimp only
    go_wp2_with fail
    go_ret
    exact ⟨rfl, hB⟩
  | true =>
    go_wp2_with fail
    refine (HN.out w HE.out).mono ?_
    rintro e w2 ⟨gv, rfl, hg, hB⟩
    obtain ⟨g, y3, y4⟩ := z
    have HG := hid hg
    obtain ⟨ev, rfl, a, cap, rfl, _⟩ := hg
    have HG1 := hid (HG.out.below ((Below.refl w2.heap.size w2).alloc (Nat.le_refl _) (.cells #[.int .i64 g.n, .slice a g.es.length cap] 24)))
    have HX1 := hid (Blk.new w2 #[.int .i64 g.n, .slice a g.es.length cap] 24)
    have HB2 := hid (up hB ((Below.refl w2.heap.size w2).alloc (Nat.le_refl _) (.cells #[.int .i64 g.n, .slice a g.es.length cap] 24)))
    clear hB HG HN
    dsimp only
    go_upto_region 4 with fail
    generalize w2.alloc (.cells #[.int .i64 g.n, .slice a g.es.length cap] 24) = W2 at *
    generalize w2.heap.size = X1 at *
    go_wp2_with fail
    refine (HR.out W2).mono ?_
    rintro e w3 ⟨gv', rfl, hg', hB⟩
    have HG2 := hid hg'
    obtain ⟨ev', rfl, a', cap', rfl, _⟩ := hg'
    have hst := (Below.refl w3.heap.size w3).alloc (Nat.le_refl _) (.cells #[.int .i64 g.n, .slice a' g.es.length cap'] 24)
    have HGa := hid ((HG1.out.below hB).below hst)
    have HGb := hid (HG2.out.below hst)
    have HXa := hid ((HX1.out.below hB).below hst)
    have HXb := hid (Blk.new w3 #[.int .i64 g.n, .slice a' g.es.length cap'] 24)
    have HB3 := hid (up (up HB2.out hB) hst)
    clear hB hst HG1 HX1 HB2 HR HG2
    dsimp only
    go_upto_region 5 with fail
    generalize w3.alloc (.cells #[.int .i64 g.n, .slice a' g.es.length cap'] 24) = W3 at *
    generalize w3.heap.size = X2 at *
    have a0 : W3.cell? ⟨X1, 0, none⟩ = some (.int .i64 g.n) := (HXa.out.cell 0).trans rfl
    have a1 : W3.cell? ⟨X1, 1, none⟩ = some (.slice a g.es.length cap) := (HXa.out.cell 1).trans rfl
    have b0 : W3.cell? ⟨X2, 0, none⟩ = some (.int .i64 g.n) := (HXb.out.cell 0).trans rfl
    have b1 : W3.cell? ⟨X2, 1, none⟩ = some (.slice a' g.es.length cap') := (HXb.out.cell 1).trans rfl
    have al := HXa.out.lt
    have bl := HXb.out.lt
    have p1 : (y3 == y3) = true := by simp
    have p2 : (y4 == y4) = true := by simp
    go_wp2_with fail
    refine (q_Same g _ _ W3 HGa.out HGb.out).mono ?_
    rintro e w4 ⟨rfl, hB⟩
    have HB4 := hid (up HB3.out hB)
    clear hB
    dsimp only
    go_wp2_with fail
    refine (l_awake w4 (HE.out.below HB4.out)).mono ?_
    rintro e w6 ⟨rfl, hB⟩
    dsimp only
    go_wp2_with fail
    go_ret
    exact ⟨rfl, up HB4.out hB⟩

end Go.Proofs.YtemmepgfngkgmaaGreatDoor
