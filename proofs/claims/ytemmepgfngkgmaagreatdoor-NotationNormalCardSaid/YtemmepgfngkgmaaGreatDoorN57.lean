/-
  ref: SameInts, SameRibbons at equal ribbon graphs. Lists in memory; joined texts, plain.
-/
import Derived.Test.YtemmepgfngkgmaaGreatDoorN55
namespace Go.Proofs.YtemmepgfngkgmaaGreatDoor
open Go.RowKit
set_option linter.unusedVariables false
set_option linter.unusedSimpArgs false

/-- Row k of the lists. -/
theorem LsR.at {w : World} {v : Value} {ls : List (List Int)} {a : Option Addr} {n cap : Nat} (h : LsR w v ls) (hv : v = .slice a n cap) (k : Nat) (hk : k < ls.length) :
    ∃ b off lv, a = some ⟨b, off, none⟩ ∧ b < w.heap.size ∧ w.cell? ⟨b, off + k, none⟩ = some lv ∧ IntsR w lv (ls[k]?.getD []) := by
  obtain ⟨a', cap', vs, e, _, _, _, hc, hl, hr⟩ := h
  rw [hv] at e
  injection e with e1 _ _
  subst e1
  rcases hc with hc | ⟨b, off, e2, hb, hc⟩
  · rw [hc] at hl; simp at hl; omega
  · refine ⟨b, off, vs[k]?.getD undef, e2, hb, ?_, hr k hk⟩
    rw [hc k (by omega), List.getElem?_eq_getElem (by omega)]
    rfl
theorem IntsR.at {w : World} {v : Value} {l : List Int} (h : IntsR w v l) : ∃ a cap, v = .slice a l.length cap ∧ l.length ≤ cap ∧ cap ≤ 9223372036854775807 ∧ ∀ k, k < l.length → ∃ b off, a = some ⟨b, off, none⟩ ∧ b < w.heap.size ∧ w.cell? ⟨b, off + k, none⟩ = some (.int .i64 (l[k]?.getD 0)) := by
  obtain ⟨a, cap, e, h1, h2, _, hc⟩ := h
  refine ⟨a, cap, e, h1, h2, fun k hk => ?_⟩
  obtain ⟨b, off, e2, hb, hc⟩ := hc.int (by omega)
  exact ⟨b, off, e2, hb, hc k hk⟩
theorem joinT_snoc (sep : List UInt8) (x : List UInt8) : ∀ l : List (List UInt8), joinT sep (l ++ [x]) = joinT sep l ++ (if l = [] then [] else sep) ++ x
  | [] => by simp [joinT]
  | [y] => by simp [joinT]
  | y :: z :: r => by
    have ih := joinT_snoc sep x (z :: r)
    rw [if_neg (by simp)] at ih
    rw [if_neg (by simp)]
    show y ++ sep ++ joinT sep (z :: r ++ [x]) = y ++ sep ++ joinT sep (z :: r) ++ sep ++ x
    rw [ih]
    simp [List.append_assoc]
theorem joinT_take (sep : List UInt8) (l : List (List UInt8)) (k : Nat) (hk : k < l.length) : joinT sep (l.take (k + 1)) = joinT sep (l.take k) ++ (if k = 0 then [] else sep) ++ (l[k]?.getD []) := by
  have e : l.take (k + 1) = l.take k ++ [l[k]?.getD []] := by
    rw [List.take_add_one, List.getElem?_eq_getElem hk]
    rfl
  rw [e, joinT_snoc]
  by_cases h0 : k = 0
  · subst h0; rfl
  · rw [if_neg h0, if_neg (fun h => by rw [← List.length_eq_zero_iff, List.length_take] at h; omega)]
theorem joinT_mono (sep : List UInt8) (l : List (List UInt8)) : ∀ j k, k + j ≤ l.length → (joinT sep (l.take k)).length ≤ (joinT sep (l.take (k + j))).length
  | 0, k, _ => Nat.le_refl _
  | j + 1, k, h => by
    have h1 := joinT_mono sep l j k (by omega)
    have h2 := joinT_take sep l (k + j) (by omega)
    rw [show k + (j + 1) = k + j + 1 by omega, h2, List.length_append, List.length_append]
    omega
set_option maxRecDepth 100000 in
set_option maxHeartbeats 1000000 in
theorem q_SameInts (l : List Int) (av bv : Value) (w : World) (ha : IntsR w av l) (hb : IntsR w bv l) :
    Calls Tryz.prog 73 #[av, bv] w fun e w' => e = .returned (.bool true) ∧ Below w.heap.size w w' := by
  obtain ⟨a, cap, rfl, h1, h2, hc⟩ := ha.at
  obtain ⟨a', cap', rfl, h1', h2', hd⟩ := hb.at
  have HC := hid hc
  have HD := hid hd
  have q2 : ((l.length : Int) != (l.length : Int)) = false := by simp
  clear hc hd ha hb
  go_enter Tryz.func73, Tryz.ntmps73
  go_wp2_with fail
  go_loopw [5] (fun i wr => ∃ k : Nat, k ≤ l.length ∧ i = .int .i64 k ∧ Hid (Below w.heap.size w wr)) (fun i _ => l.length - (intOf i).toNat)
  case atStart => exact ⟨0, Nat.zero_le _, rfl, Below.refl _ _⟩
  case round =>
    obtain ⟨k, hkn, rfl, HBr⟩ := hrel
    by_cases hlt : k < l.length
    · have hlt' : (k : Int) < (l.length : Int) := by omega
      have hk0 : (0 : Int) ≤ (k : Int) := by omega
      obtain ⟨b, off, rfl, hb, c0⟩ := HC.out k hlt
      obtain ⟨b', off', rfl, hb', d0⟩ := HD.out k hlt
      have c0 := (HBr.out.cell (p := ⟨b, off + k, none⟩) hb).trans c0
      have d0 := (HBr.out.cell (p := ⟨b', off' + k, none⟩) hb').trans d0
      generalize l[k]?.getD 0 = x at *
      have p1 : (x != x) = false := by simp
      go_wp2_with fail
      go_quiet (fail)
      go_wp2_with fail
      exact ⟨⟨k + 1, by omega, by go_num, below_dN HBr.out _⟩, by simp [intOf]; omega⟩
    · obtain rfl : k = l.length := by omega
      have hlt' : ¬ (l.length : Int) < (l.length : Int) := by omega
      go_wp2_with fail
      go_ret
      exact ⟨rfl, HBr.out⟩

set_option maxRecDepth 100000 in
set_option maxHeartbeats 4000000 in
theorem q_SameRib (g : G) (ls : List (List Int)) (av bv : Value) (w : World) (ha : RibR w av (g, ls)) (hb : RibR w bv (g, ls)) :
    Calls Tryz.prog 24 #[av, bv] w fun e w' => e = .returned (.bool true) ∧ Below w.heap.size w w' := by
  obtain ⟨ev, lv, rfl, hE, hL⟩ := ha
  obtain ⟨ev', lv', rfl, hE', hL'⟩ := hb
  have HE := hid hE
  have HE' := hid hE'
  have HL := hid hL
  have HL' := hid hL'
  obtain ⟨a, cap, rfl, _⟩ := hE
  obtain ⟨a', cap', rfl, _⟩ := hE'
  obtain ⟨la, lcap, _, rfl, hcap, hcm, _⟩ := hL
  obtain ⟨la', lcap', _, rfl, hcap', hcm', _⟩ := hL'
  dsimp only at hcap hcm hcap' hcm' HE HE' HL HL'
  have hA := hid ((Blk.new w #[.int .i64 g.n, .slice a g.es.length cap, .slice la ls.length lcap] 40).alloc (.cells #[.int .i64 g.n, .slice a' g.es.length cap', .slice la' ls.length lcap'] 40))
  have hBb := Blk.new (w.alloc (.cells #[.int .i64 g.n, .slice a g.es.length cap, .slice la ls.length lcap] 40)) #[.int .i64 g.n, .slice a' g.es.length cap', .slice la' ls.length lcap'] 40
  rw [World.size_alloc] at hBb
  have hB := hid hBb
  have HB0 := hid (((Below.refl w.heap.size w).alloc (Nat.le_refl _) (.cells #[.int .i64 g.n, .slice a g.es.length cap, .slice la ls.length lcap] 40)).alloc (by simp) (.cells #[.int .i64 g.n, .slice a' g.es.length cap', .slice la' ls.length lcap'] 40))
  clear hBb
  have q2 : ((ls.length : Int) != (ls.length : Int)) = false := by simp
  go_enter Tryz.func24, Tryz.ntmps24
  go_upto_region 1 with fail
  (try dsimp only)
  generalize (w.alloc (.cells #[.int .i64 g.n, .slice a g.es.length cap, .slice la ls.length lcap] 40)).alloc (.cells #[.int .i64 g.n, .slice a' g.es.length cap', .slice la' ls.length lcap'] 40) = W0 at *
  have a0 : W0.cell? ⟨w.heap.size, 0, none⟩ = some (.int .i64 g.n) := (hA.out.cell 0).trans rfl
  have a1 : W0.cell? ⟨w.heap.size, 1, none⟩ = some (.slice a g.es.length cap) := (hA.out.cell 1).trans rfl
  have b0 : W0.cell? ⟨w.heap.size + 1, 0, none⟩ = some (.int .i64 g.n) := (hB.out.cell 0).trans rfl
  have b1 : W0.cell? ⟨w.heap.size + 1, 1, none⟩ = some (.slice a' g.es.length cap') := (hB.out.cell 1).trans rfl
  have al := hA.out.lt
  have bl := hB.out.lt
  have HGa : Hid (GrR W0 (.agg #[.int .i64 g.n, .slice a g.es.length cap]) g) := ⟨_, rfl, HE.out.below HB0.out⟩
  have HGb : Hid (GrR W0 (.agg #[.int .i64 g.n, .slice a' g.es.length cap']) g) := ⟨_, rfl, HE'.out.below HB0.out⟩
  have HL0 := hid (HL.out.below HB0.out)
  have HL0' := hid (HL'.out.below HB0.out)
  go_wp2_with fail
  refine (q_Same g _ _ W0 HGa.out HGb.out).mono ?_
  rintro e w1 ⟨rfl, hB1⟩
  have HB1 := hid hB1
  clear hB1 a0 a1 b0 b1 al bl
  have a2 : w1.cell? ⟨w.heap.size, 2, none⟩ = some (.slice la ls.length lcap) := ((hA.out.below HB1.out).cell 2).trans rfl
  have b2 : w1.cell? ⟨w.heap.size + 1, 2, none⟩ = some (.slice la' ls.length lcap') := ((hB.out.below HB1.out).cell 2).trans rfl
  have al := (hA.out.below HB1.out).lt
  have bl := (hB.out.below HB1.out).lt
  dsimp only
  go_wp2_with fail
  clear a2 b2 al bl
  go_loopw [5] (fun i wr => ∃ k : Nat, k ≤ ls.length ∧ i = .int .i64 k ∧ Hid (Below W0.heap.size W0 wr)) (fun i _ => ls.length - (intOf i).toNat)
  case atStart => exact ⟨0, Nat.zero_le _, rfl, HB1⟩
  case round =>
    clear HB1
    obtain ⟨k, hkn, rfl, HBr⟩ := hrel
    obtain ⟨W1, rfl⟩ : ∃ W : World, W = wr := ⟨_, rfl⟩
    have a2 : W1.cell? ⟨w.heap.size, 2, none⟩ = some (.slice la ls.length lcap) := ((hA.out.below HBr.out).cell 2).trans rfl
    have b2 : W1.cell? ⟨w.heap.size + 1, 2, none⟩ = some (.slice la' ls.length lcap') := ((hB.out.below HBr.out).cell 2).trans rfl
    have al := (hA.out.below HBr.out).lt
    have bl := (hB.out.below HBr.out).lt
    by_cases hlt : k < ls.length
    · have hlt' : (k : Int) < (ls.length : Int) := by omega
      have hk0 : (0 : Int) ≤ (k : Int) := by omega
      obtain ⟨b, off, lv, rfl, hb, c0, hI⟩ := (HL0.out.below HBr.out).at rfl k hlt
      obtain ⟨b', off', lv', rfl, hb', d0, hI'⟩ := (HL0'.out.below HBr.out).at rfl k hlt
      generalize ls[k]?.getD [] = l at *
      have HI := hid hI
      have HI' := hid hI'
      obtain ⟨xa, xc, rfl, _⟩ := hI
      obtain ⟨xa', xc', rfl, _⟩ := hI'
      have hcl : Hid (∀ W', Below W1.heap.size W1 W' → W'.cell? ⟨w.heap.size, 2, none⟩ = some (.slice (some ⟨b, off, none⟩) ls.length lcap) ∧ W'.cell? ⟨w.heap.size + 1, 2, none⟩ = some (.slice (some ⟨b', off', none⟩) ls.length lcap') ∧ W'.cell? ⟨b, off + k, none⟩ = some (.slice xa l.length xc) ∧ W'.cell? ⟨b', off' + k, none⟩ = some (.slice xa' l.length xc')) := fun W' hB =>
        ⟨(hB.cell (p := ⟨w.heap.size, 2, none⟩) al).trans a2, (hB.cell (p := ⟨w.heap.size + 1, 2, none⟩) bl).trans b2, (hB.cell (p := ⟨b, off + k, none⟩) hb).trans c0, (hB.cell (p := ⟨b', off' + k, none⟩) hb').trans d0⟩
      go_upto_region 6 with fail
      clear a2 b2 c0 d0
      let S : World → Prop := fun W' => Hid (Below W1.heap.size W1 W')
      (refine wp_region_text 11 [0,1,2,3,4,5,6,7,8,9,10] S (by kernel_rfl) (by kernel_rfl) (by intro _ _ d _ _ h; cases d <;> exact h) ?hS ?_; rotate_left; simp only [List.map_cons, List.map_nil, List.getD_cons_zero, List.getD_cons_succ, List.drop_succ_cons, List.drop_zero])
      case hS => exact Below.drew (Below.refl _ _)
      (repeat ((refine' wpSeq_take rfl _ (by rfl) ?_ ?_; rotate_left; focus (intro w' hS; (try dsimp only at hS); obtain ⟨s0, s1, s2, s3⟩ := hcl.out _ hS.out; go_simp; (first | done | with_reducible rfl)); (try simp only [Act.put, List.setIfInBounds_toArray, List.set_cons_zero, List.set_cons_succ])); (try simp only [Act.put, List.setIfInBounds_toArray, List.set_cons_zero, List.set_cons_succ])))
      (refine wpSeq_call rfl (by rfl) (fun K hK => ?_); go_simp; refine ((q_SameInts l _ _ _ (HI.out.below (Below.drew (Below.refl _ _))) (HI'.out.below (Below.drew (Below.refl _ _))))).mono ?_; rintro e w5 ⟨rfl, hB5⟩; refine hK _ _ (((Below.drew (Below.refl W1.heap.size W1)).trans hB5)) ?_; clear hK K; (try simp only [Act.put, List.setIfInBounds_toArray, List.set_cons_zero, List.set_cons_succ]))
      have HB5 := hid (up HBr.out ((Below.drew (Below.refl W1.heap.size W1)).trans hB5))
      clear hB5
      refine wpSeq_nil ?_
      clear S
      go_wp2_with fail
      exact ⟨⟨k + 1, by omega, by go_num, HB5⟩, by simp [intOf]; omega⟩
    · obtain rfl : k = ls.length := by omega
      have hlt' : ¬ (ls.length : Int) < (ls.length : Int) := by omega
      go_wp2_with fail
      go_ret
      exact ⟨rfl, up HB0.out HBr.out⟩

end Go.Proofs.YtemmepgfngkgmaaGreatDoor
