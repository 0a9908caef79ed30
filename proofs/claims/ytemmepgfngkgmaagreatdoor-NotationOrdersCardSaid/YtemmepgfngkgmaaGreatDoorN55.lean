/-
  ref08.Same at equal graphs.
-/
import Derived.Test.YtemmepgfngkgmaaGreatDoorN31
namespace Go.Proofs.YtemmepgfngkgmaaGreatDoor
open Go.RowKit
set_option linter.unusedVariables false
set_option linter.unusedSimpArgs false

set_option maxRecDepth 100000 in
set_option maxHeartbeats 4000000 in
theorem q_Same (g : G) (av bv : Value) (w : World) (ha : GrR w av g) (hb : GrR w bv g) :
    Calls Tryz.prog 18 #[av, bv] w fun e w' => e = .returned (.bool true) ∧ Below w.heap.size w w' := by
  obtain ⟨ev, rfl, hE⟩ := ha
  obtain ⟨ev', rfl, hE'⟩ := hb
  have HE := hid hE
  have HE' := hid hE'
  obtain ⟨a, cap, rfl, _⟩ := hE
  obtain ⟨a', cap', rfl, _⟩ := hE'
  have hA := hid ((Blk.new w #[.int .i64 g.n, .slice a g.es.length cap] 24).alloc (.cells #[.int .i64 g.n, .slice a' g.es.length cap'] 24))
  have hBb := Blk.new (w.alloc (.cells #[.int .i64 g.n, .slice a g.es.length cap] 24)) #[.int .i64 g.n, .slice a' g.es.length cap'] 24
  rw [World.size_alloc] at hBb
  have hB := hid hBb
  have HB0 := hid (((Below.refl w.heap.size w).alloc (Nat.le_refl _) (.cells #[.int .i64 g.n, .slice a g.es.length cap] 24)).alloc (by simp) (.cells #[.int .i64 g.n, .slice a' g.es.length cap'] 24))
  clear hBb
  have q1 : (g.n != g.n) = false := by simp
  have q2 : ((g.es.length : Int) != (g.es.length : Int)) = false := by simp
  go_enter Tryz.func18, Tryz.ntmps18
  go_upto_region 1 with fail
  generalize (w.alloc (.cells #[.int .i64 g.n, .slice a g.es.length cap] 24)).alloc (.cells #[.int .i64 g.n, .slice a' g.es.length cap'] 24) = W0 at *
  have a0 : W0.cell? ⟨w.heap.size, 0, none⟩ = some (.int .i64 g.n) := (hA.out.cell 0).trans rfl
  have a1 : W0.cell? ⟨w.heap.size, 1, none⟩ = some (.slice a g.es.length cap) := (hA.out.cell 1).trans rfl
  have b0 : W0.cell? ⟨w.heap.size + 1, 0, none⟩ = some (.int .i64 g.n) := (hB.out.cell 0).trans rfl
  have b1 : W0.cell? ⟨w.heap.size + 1, 1, none⟩ = some (.slice a' g.es.length cap') := (hB.out.cell 1).trans rfl
  have al := hA.out.lt
  have bl := hB.out.lt
  have HE0 := hid (HE.out.below HB0.out)
  have HE0' := hid (HE'.out.below HB0.out)
  go_wp2_with fail
  go_loopw [5] (fun i wr => ∃ k : Nat, k ≤ g.es.length ∧ i = .int .i64 k ∧ Hid (Below W0.heap.size W0 wr)) (fun i _ => g.es.length - (intOf i).toNat)
  case atStart => exact ⟨0, Nat.zero_le _, rfl, Below.refl _ _⟩
  case round =>
    obtain ⟨k, hkn, rfl, HBr⟩ := hrel
    have a1 : wr.cell? ⟨w.heap.size, 1, none⟩ = some (.slice a g.es.length cap) := ((hA.out.below HBr.out).cell 1).trans rfl
    have b1 : wr.cell? ⟨w.heap.size + 1, 1, none⟩ = some (.slice a' g.es.length cap') := ((hB.out.below HBr.out).cell 1).trans rfl
    have al := (hA.out.below HBr.out).lt
    have bl := (hB.out.below HBr.out).lt
    by_cases hlt : k < g.es.length
    · have hlt' : (k : Int) < (g.es.length : Int) := by omega
      have hk0 : (0 : Int) ≤ (k : Int) := by omega
      obtain ⟨x1, x2, ea, _, _, _, hc⟩ := HE0.out.below HBr.out
      injection ea with ea1 _ ea3
      subst ea1 ea3
      obtain ⟨b, off, rfl, hb, hc⟩ := hc.edge (by omega)
      obtain ⟨c0, c1, c2⟩ := hc k hlt
      obtain ⟨y1, y2, eb, _, _, _, hd⟩ := HE0'.out.below HBr.out
      injection eb with eb1 _ eb3
      subst eb1 eb3
      obtain ⟨b', off', rfl, hb', hd⟩ := hd.edge (by omega)
      obtain ⟨d0, d1, d2⟩ := hd k hlt
      clear hc hd
      generalize g.es[k]?.getD default = x at *
      obtain ⟨xa, xb, xm⟩ := x
      dsimp only at c0 c1 c2 d0 d1 d2
      have p1 : (xa == xa) = true := by simp
      have p2 : (xb == xb) = true := by simp
      have p3 : (xm == xm) = true := by simp
      go_wp2_with fail
      go_quiet (fail)
      go_wp2_with fail
      exact ⟨⟨k + 1, by omega, by go_num, below_dN HBr.out _⟩, by simp [intOf]; omega⟩
    · obtain rfl : k = g.es.length := by omega
      have hlt' : ¬ (g.es.length : Int) < (g.es.length : Int) := by omega
      go_wp2_with fail
      go_ret
      exact ⟨rfl, HB0.out.trans (HBr.out.mono HB0.out.size)⟩

end Go.Proofs.YtemmepgfngkgmaaGreatDoor
