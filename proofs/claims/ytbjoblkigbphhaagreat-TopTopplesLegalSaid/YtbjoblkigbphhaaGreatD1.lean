/-
  The board of leastaction in memory; contracts: unstable, fire. The board of leastaction: stabilizing, inside. The board of leastaction: the greatest set.
-/
import Derived.Test.YtbjoblkigbphhaaGreatP32
namespace Go.Proofs.YtbjoblkigbphhaaGreat
set_option linter.unusedVariables false
set_option linter.unusedSimpArgs false
open Go.RowKit

def bCell (q : Int) (R : Nat → Nat → Int) (V : Nat → Int) (left : Value) (i : Nat) : Value :=
  if i = 0 then .int .i64 q else if i < 145 then .int .i64 (R ((i - 1) / 12) ((i - 1) % 12)) else if i < 157 then .int .i64 (V (i - 145)) else left
def bCells (q : Int) (R : Nat → Nat → Int) (V : Nat → Int) (left : Value) : Array Value := ((List.range 158).map (bCell q R V left)).toArray
theorem bCells_get (q : Int) (R : Nat → Nat → Int) (V : Nat → Int) (left : Value) (i : Nat) (hi : i < 158) : (bCells q R V left)[i]? = some (bCell q R V left i) := by
  unfold bCells
  simp [hi]
theorem bCells_q (q : Int) (R : Nat → Nat → Int) (V : Nat → Int) (left : Value) : (bCells q R V left)[0]? = some (.int .i64 q) := by
  rw [bCells_get _ _ _ _ _ (by omega)]; rfl
theorem bCells_R (q : Int) (R : Nat → Nat → Int) (V : Nat → Int) (left : Value) (u v : Nat) (hu : u < 12) (hv : v < 12) : (bCells q R V left)[1 + u * 12 + v]? = some (.int .i64 (R u v)) := by
  rw [bCells_get _ _ _ _ _ (by omega)]
  unfold bCell
  rw [if_neg (by omega), if_pos (by omega), show (1 + u * 12 + v - 1) / 12 = u by omega, show (1 + u * 12 + v - 1) % 12 = v by omega]
theorem bCells_V (q : Int) (R : Nat → Nat → Int) (V : Nat → Int) (left : Value) (u : Nat) (hu : u < 12) : (bCells q R V left)[145 + u]? = some (.int .i64 (V u)) := by
  rw [bCells_get _ _ _ _ _ (by omega)]
  unfold bCell
  rw [if_neg (by omega), if_neg (by omega), if_pos (by omega), show 145 + u - 145 = u by omega]
theorem bCells_left (q : Int) (R : Nat → Nat → Int) (V : Nat → Int) (left : Value) : (bCells q R V left)[157]? = some left := by
  rw [bCells_get _ _ _ _ _ (by omega)]; rfl
theorem bCells_set (q : Int) (R R' : Nat → Nat → Int) (V V' : Nat → Int) (left x : Value) (k : Nat) (hk : k < 158) {q' : Int} {left' : Value} (h : ∀ i, i < 158 → (if i = k then x else bCell q R V left i) = bCell q' R' V' left' i) : (bCells q R V left).setIfInBounds k x = bCells q' R' V' left' := by
  apply Array.ext_getElem?
  intro i
  rw [Array.getElem?_setIfInBounds]
  have hs : (bCells q R V left).size = 158 := by simp [bCells]
  by_cases hi : i < 158
  · rw [bCells_get _ _ _ _ i hi, bCells_get _ _ _ _ i hi, ← h i hi]
    by_cases e : k = i
    · subst e; simp [hs, hi]
    · rw [if_neg e, if_neg (fun h => e h.symm)]
  · have h1 : (bCells q R V left)[i]? = none := by rw [Array.getElem?_eq_none_iff, hs]; omega
    have h2 : (bCells q' R' V' left')[i]? = none := by rw [Array.getElem?_eq_none_iff]; simp [bCells]; omega
    rw [h1, h2, if_neg (by omega)]
theorem bCells_setR (q : Int) (R : Nat → Nat → Int) (V : Nat → Int) (left : Value) (u v : Nat) (hu : u < 12) (hv : v < 12) (x : Int) : (bCells q R V left).setIfInBounds (1 + u * 12 + v) (.int .i64 x) = bCells q (fun i j => if i = u ∧ j = v then x else R i j) V left := by
  refine bCells_set _ _ _ _ _ _ _ _ (by omega) fun i hi => ?_
  unfold bCell
  by_cases h0 : i = 0
  · rw [if_neg (by omega), if_pos h0, if_pos h0]
  rw [if_neg h0, if_neg h0]
  by_cases h1 : i < 145
  · rw [if_pos h1, if_pos h1]
    dsimp only
    by_cases e : i = 1 + u * 12 + v
    · rw [if_pos e, if_pos ⟨by omega, by omega⟩]
    · rw [if_neg e, if_neg (by omega)]
  · rw [if_neg (by omega), if_neg h1, if_neg h1]
theorem bCells_setV (q : Int) (R : Nat → Nat → Int) (V : Nat → Int) (left : Value) (u : Nat) (hu : u < 12) (x : Int) : (bCells q R V left).setIfInBounds (145 + u) (.int .i64 x) = bCells q R (fun i => if i = u then x else V i) left := by
  refine bCells_set _ _ _ _ _ _ _ _ (by omega) fun i hi => ?_
  unfold bCell
  by_cases h0 : i = 0
  · rw [if_neg (by omega), if_pos h0, if_pos h0]
  rw [if_neg h0, if_neg h0]
  by_cases h1 : i < 145
  · rw [if_neg (by omega), if_pos h1, if_pos h1]
  rw [if_neg h1, if_neg h1]
  by_cases h2 : i < 157
  · rw [if_pos h2, if_pos h2]
    dsimp only
    by_cases e : i = 145 + u
    · rw [if_pos e, if_pos (by omega)]
    · rw [if_neg e, if_neg (by omega)]
  · rw [if_neg (by omega), if_neg h2, if_neg h2]
theorem bCells_congr {q : Int} {R R' : Nat → Nat → Int} {V V' : Nat → Int} {left : Value} (hR : ∀ u v, u < 12 → v < 12 → R u v = R' u v) (hV : ∀ u, u < 12 → V u = V' u) : bCells q R V left = bCells q R' V' left := by
  unfold bCells
  congr 1
  refine List.map_congr_left fun i hi => ?_
  have hi := List.mem_range.1 hi
  unfold bCell
  split
  · rfl
  · split
    · rw [hR _ _ (by omega) (by omega)]
    · split
      · rw [hV _ (by omega)]
      · rfl

/-- The board, in memory. -/
structure Bo (W0 w : World) (b bl cl N : Nat) (q : Int) (R : Nat → Nat → Int) (V L : Nat → Int) : Prop where
  blk : Blk w b (bCells q R V (.slice (some ⟨bl, 0, none⟩) N cl)) 106
  left : w.ownsRow W0.heap.size 3 1 (.slice (some ⟨bl, 0, none⟩) N cl) N ((vecOf N L).map (Value.int .i64))
  hb : W0.heap.size ≤ b
  n : 1 ≤ N ∧ N ≤ 12
  below : Below W0.heap.size W0 w
section
variable {W0 w w' : World} {b bl cl N : Nat} {q : Int} {R : Nat → Nat → Int} {V L : Nat → Int}
theorem Bo.mono (h : Bo W0 w b bl cl N q R V L) (hB : Below w.heap.size w w') : Bo W0 w' b bl cl N q R V L :=
  ⟨h.blk.below hB, owns_below h.left hB, h.hb, h.n, h.below.trans (hB.mono h.below.size)⟩
theorem Bo.base {W0' : World} (h : Bo W0 w b bl cl N q R V L) (hB : Below W0'.heap.size W0' W0) : Bo W0' w b bl cl N q R V L :=
  ⟨h.blk, owns_base h.left hB.size, Nat.le_trans hB.size h.hb, h.n, hB.trans (h.below.mono hB.size)⟩
theorem Bo.ne (h : Bo W0 w b bl cl N q R V L) : bl ≠ b := owns_blk h.blk h.left (by decide) _ rfl
theorem Bo.setL (h : Bo W0 w b bl cl N q R V L) (u : Nat) (x : Int) : Bo W0 (w.setCell ⟨bl, u, none⟩ (.int .i64 x)) b bl cl N q R V (fun i => if i = u then x else L i) := by
  have l1 := (owns_lt h.left).1
  refine ⟨h.blk.other h.ne.symm u _, ?_, h.hb, h.n, h.below.setCell (by exact l1) _⟩
  have := owns_set h.left u x
  rwa [vecOf_set] at this
theorem Bo.setR (h : Bo W0 w b bl cl N q R V L) (u v : Nat) (hu : u < 12) (hv : v < 12) (x : Int) : Bo W0 (w.setCell ⟨b, 1 + u * 12 + v, none⟩ (.int .i64 x)) b bl cl N q (fun i j => if i = u ∧ j = v then x else R i j) V L := by
  refine ⟨?_, owns_other h.left h.ne _ _, h.hb, h.n, h.below.setCell (by exact h.hb) _⟩
  have := h.blk.set (1 + u * 12 + v) (.int .i64 x)
  rwa [bCells_setR _ _ _ _ _ _ hu hv] at this
theorem Bo.setV (h : Bo W0 w b bl cl N q R V L) (u : Nat) (hu : u < 12) (x : Int) : Bo W0 (w.setCell ⟨b, 145 + u, none⟩ (.int .i64 x)) b bl cl N q R (fun i => if i = u then x else V i) L := by
  refine ⟨?_, owns_other h.left h.ne _ _, h.hb, h.n, h.below.setCell (by exact h.hb) _⟩
  have := h.blk.set (145 + u) (.int .i64 x)
  rwa [bCells_setV _ _ _ _ _ hu] at this
theorem Bo.congr {R' : Nat → Nat → Int} {V' L' : Nat → Int} (h : Bo W0 w b bl cl N q R V L) (hR : ∀ u v, u < 12 → v < 12 → R u v = R' u v) (hV : ∀ u, u < 12 → V u = V' u) (hL : ∀ u, u < N → L u = L' u) : Bo W0 w b bl cl N q R' V' L' := by
  refine ⟨by rw [← bCells_congr hR hV]; exact h.blk, ?_, h.hb, h.n, h.below⟩
  rw [← vecOf_congr N L L' hL]; exact h.left
theorem Bo.cq (h : Bo W0 w b bl cl N q R V L) : w.cell? ⟨b, 0, none⟩ = some (.int .i64 q) := by rw [h.blk.cell, bCells_q]
theorem Bo.cF (h : Bo W0 w b bl cl N q R V L) : w.cell? ⟨b, 157, none⟩ = some (.slice (some ⟨bl, 0, none⟩) N cl) := by rw [h.blk.cell, bCells_left]
theorem Bo.cR (h : Bo W0 w b bl cl N q R V L) (u v : Nat) (hu : u < 12) (hv : v < 12) : w.cell? ⟨b, 1 + u * 12 + v, none⟩ = some (.int .i64 (R u v)) := by rw [h.blk.cell, bCells_R _ _ _ _ _ _ hu hv]
theorem Bo.cV (h : Bo W0 w b bl cl N q R V L) (u : Nat) (hu : u < 12) : w.cell? ⟨b, 145 + u, none⟩ = some (.int .i64 (V u)) := by rw [h.blk.cell, bCells_V _ _ _ _ _ hu]
theorem Bo.cL (h : Bo W0 w b bl cl N q R V L) (u : Nat) (hu : u < N) : w.cell? ⟨bl, u, none⟩ = some (.int .i64 (L u)) := by rw [owns_int h.left u hu, vecOf_get _ _ _ hu]
end
def unsB (q : Int) (V L : Nat → Int) (v : Nat) : Bool := decide ((v : Int) ≠ q) && decide (V v ≤ L v)

set_option maxRecDepth 100000 in
set_option maxHeartbeats 1000000 in
theorem b_unst {W0 w : World} {b bl cl N : Nat} {q : Int} {R : Nat → Nat → Int} {V L : Nat → Int} (h : Bo W0 w b bl cl N q R V L) (v : Nat) (hv : v < N) :
    Calls Tryz.prog 31 #[.pointer (some ⟨b, 0, none⟩), .int .i64 v] w fun e w' => e = .returned (.bool (unsB q V L v)) ∧ Below w.heap.size w w' := by
  have hN := h.n
  have p0 := h.cq
  have p1 := h.cF
  have c1 := h.cL v hv
  have c2 := h.cV v (by omega)
  have l0 := h.blk.lt
  have l1 := (owns_lt h.left).2
  have hv0 : (0 : Int) ≤ (v : Int) := by omega
  have hv1 : (v : Int) < (N : Int) := by omega
  have hv12 : (v : Int) < 12 := by omega
  generalize hz : unsB q V L v = z
  unfold unsB at hz
  clear h
  generalize L v = x at *
  generalize V v = y at *
  by_cases hq : (v : Int) = q
  · have hqb : ((v : Int) != q) = false := by simp [hq]
    have hf : Hid (z = false) := by show _ = _; rw [← hz]; simp [hq]
    clear hz hq
    go_enter Tryz.func31, Tryz.ntmps31
    go_wp2
    go_quiet (fail)
    go_wp2
    go_ret
    exact ⟨by rw [hf.out]; rfl, below_dN (Below.refl _ _) _⟩
  · have hqb : ((v : Int) != q) = true := by simp [hq]
    by_cases hx : y ≤ x
    · have hf : Hid (z = true) := by show _ = _; rw [← hz]; simp [hq, hx]
      clear hz hq
      go_enter Tryz.func31, Tryz.ntmps31
      go_wp2
      go_quiet (fail)
      go_wp2
      go_ret
      exact ⟨by rw [hf.out]; first | rfl | simp [hx] | (simp; omega), below_dN (Below.refl _ _) _⟩
    · have hf : Hid (z = false) := by show _ = _; rw [← hz]; simp [hx]
      clear hz hq
      go_enter Tryz.func31, Tryz.ntmps31
      go_wp2
      go_quiet (fail)
      go_wp2
      go_ret
      exact ⟨by rw [hf.out]; first | rfl | simp [hx] | (simp; omega), below_dN (Below.refl _ _) _⟩

def kB (R : Nat → Nat → Int) (V : Nat → Int) (v : Nat) (k : Int) (u : Nat) (L : Nat → Int) (j : Nat) : Int := (if j = v then L j - k * V v else L j) + if j < u then k * R v j else 0
theorem kB_zero (R : Nat → Nat → Int) (V : Nat → Int) (v : Nat) (k : Int) (L : Nat → Int) (j : Nat) : (if j = v then L v - k * V v else L j) = kB R V v k 0 L j := by
  unfold kB
  by_cases h : j = v
  · subst h; simp
  · simp [h]
theorem kB_succ (R : Nat → Nat → Int) (V : Nat → Int) (v : Nat) (k : Int) (u : Nat) (L : Nat → Int) (j : Nat) : (if j = u then kB R V v k u L u + k * R v u else kB R V v k u L j) = kB R V v k (u + 1) L j := by
  by_cases h : j = u
  · subst h
    rw [if_pos rfl]
    unfold kB
    rw [if_neg (show ¬ j < j by omega), if_pos (show j < j + 1 by omega)]
    omega
  · rw [if_neg h]
    unfold kB
    by_cases h2 : j < u
    · rw [if_pos h2, if_pos (show j < u + 1 by omega)]
    · rw [if_neg h2, if_neg (show ¬ j < u + 1 by omega)]
/-- What a vertex that fires k times leaves. -/
def firB (R : Nat → Nat → Int) (V : Nat → Int) (v : Nat) (k : Int) (L : Nat → Int) (j : Nat) : Int := (if j = v then L j - k * V v else L j) + k * R v j
theorem kB_end (R : Nat → Nat → Int) (V : Nat → Int) (v : Nat) (k : Int) (N : Nat) (L : Nat → Int) (j : Nat) (hj : j < N) : kB R V v k N L j = firB R V v k L j := by
  unfold kB firB
  rw [if_pos hj]

set_option maxRecDepth 100000 in
set_option maxHeartbeats 4000000 in
theorem b_fire {W0 w : World} {b bl cl N : Nat} {q : Int} {R : Nat → Nat → Int} {V L : Nat → Int} (h : Bo W0 w b bl cl N q R V L) (v : Nat) (hv : v < N) (k : Int) (hk : -1048576 ≤ k ∧ k ≤ 1048576)
    (hL : ∀ u, u < N → -1000000000000 ≤ L u ∧ L u ≤ 1000000000000) (hV : 0 ≤ V v ∧ V v ≤ 100000) (hR : ∀ u, 0 ≤ R v u ∧ R v u ≤ 100000) :
    Calls Tryz.prog 32 #[.pointer (some ⟨b, 0, none⟩), .int .i64 v, .int .i64 k] w fun e w' => e = .returned (.tuple #[]) ∧ Bo W0 w' b bl cl N q R V (firB R V v k L) ∧ KeptB w w' (fun j => j = bl) := by
  have hN := h.n
  have p0 := h.cF
  have c1 := h.cL v hv
  have c2 := h.cV v (by omega)
  have fb := h.left.frozenAt v
  have l0 := h.blk.lt
  have l1 := (owns_lt h.left).2
  have hv0 : (0 : Int) ≤ (v : Int) := by omega
  have hv1 : (v : Int) < (N : Int) := by omega
  have hv12 : (v : Int) < 12 := by omega
  have HN := hid hN
  have hkv : -1048576 * 100000 ≤ k * V v ∧ k * V v ≤ 1048576 * 100000 := by
    have h1 := Int.mul_le_mul hk.2 hV.2 hV.1 (by omega)
    have h2 := Int.mul_le_mul (show -k ≤ 1048576 by omega) hV.2 hV.1 (by omega)
    rw [Int.neg_mul] at h2
    omega
  have hkr : ∀ u, -1048576 * 100000 ≤ k * R v u ∧ k * R v u ≤ 1048576 * 100000 := fun u => by
    have h1 := Int.mul_le_mul hk.2 (hR u).2 (hR u).1 (by omega)
    have h2 := Int.mul_le_mul (show -k ≤ 1048576 by omega) (hR u).2 (hR u).1 (by omega)
    rw [Int.neg_mul] at h2
    omega
  have HKR := hid hkr
  have HKV := hid hkv
  have HLB := hid hL
  have w1 : IntKind.i64.wrap (k * V v) = k * V v := IntWalk.i64_in _ (by omega)
  have w2 : IntKind.i64.wrap (L v - k * V v) = L v - k * V v := IntWalk.i64_in _ (by have := hL v hv; omega)
  have HP0 : Hid (Bo W0 (w.setCell ⟨bl, v, none⟩ (.int .i64 (L v - k * V v))).drew b bl cl N q R V (kB R V v k 0 L)) :=
    ((h.setL v _).congr (fun _ _ _ _ => rfl) (fun _ _ => rfl) (fun j _ => kB_zero _ _ _ _ _ _)).mono (Below.drew (Below.refl _ _))
  have HK0 : Hid (KeptB w (w.setCell ⟨bl, v, none⟩ (.int .i64 (L v - k * V v))).drew (fun j => j = bl)) := kept_trans (kept_set (p := fun j => j = bl) (kept_refl _ _) rfl _ _) (kept_below (p := fun _ => False) (Below.drew (Below.refl _ _))) (fun _ h => h.elim)
  have HVN := hid hv
  clear h hL hkv hkr hk hV hR hN hv
  go_enter Tryz.func32, Tryz.ntmps32
  let S : World → Prop := fun w' => w'.cell? ⟨b, 157, none⟩ = some (.slice (some ⟨bl, 0, none⟩) N cl) ∧ w'.cell? ⟨bl, v, none⟩ = some (.int .i64 (L v)) ∧ w'.cell? ⟨b, 145 + v, none⟩ = some (.int .i64 (V v))
  go_wp2
  (refine wp_region_text 17 [0,1,2,3,4,5,6,7,8,9,10,11,12,13,14,15,16] S (by kernel_rfl) (by kernel_rfl) (by intro _ _ d _ _ h; cases d <;> exact h) ?hS ?_; rotate_left; simp only [List.map_cons, List.map_nil, List.getD_cons_zero, List.getD_cons_succ, List.drop_succ_cons, List.drop_zero])
  case hS => exact ⟨p0, c1, c2⟩
  (repeat ((refine' wpSeq_take rfl _ (by rfl) ?_ ?_; rotate_left; focus (intro w' hS; (try dsimp only at hS); obtain ⟨s1, s2, s3⟩ := hS; go_simp; (first | done | with_reducible rfl)); (try simp only [Act.put, List.setIfInBounds_toArray, List.set_cons_zero, List.set_cons_succ])); (try simp only [Act.put, List.setIfInBounds_toArray, List.set_cons_zero, List.set_cons_succ])))
  refine wpSeq_nil ?_
  clear S
  go_upto_region 1 with fail
  obtain ⟨W1, hW1⟩ : ∃ W : World, W = (w.setCell ⟨bl, v, none⟩ (.int .i64 (L v - k * V v))).drew := ⟨_, rfl⟩
  rw [← hW1]
  rw [← hW1] at HP0 HK0
  clear hW1 p0 c1 c2 fb w1 w2 l0 l1
  have p0 := HP0.out.cF
  have l0 := HP0.out.blk.lt
  go_wp2
  go_loopw [29] (fun i wr => ∃ u : Nat, u ≤ N ∧ i = .int .i64 u ∧ Hid (Bo W0 wr b bl cl N q R V (kB R V v k u L)) ∧ Hid (KeptB w wr (fun j => j = bl))) (fun i _ => N - (intOf i).toNat)
  case atStart => exact ⟨0, Nat.zero_le _, rfl, HP0, HK0⟩
  case round =>
    clear HP0 HK0 p0 l0
    obtain ⟨u, hu, rfl, HP, HK⟩ := hrel
    obtain ⟨W3, rfl⟩ : ∃ W : World, W = wr := ⟨_, rfl⟩
    have p0 := HP.out.cF
    have l0 := HP.out.blk.lt
    have l1 := (owns_lt HP.out.left).2
    by_cases hut : u < N
    · have c1 := HP.out.cL u hut
      have c2 := HP.out.cR v u (by have := HN.out; have := HVN.out; omega) (by have := HN.out; omega)
      have fb := HP.out.left.frozenAt u
      have hu1 : (u : Int) < (N : Int) := by omega
      have hu0 : (0 : Int) ≤ (u : Int) := by omega
      have hu12 : (u : Int) < 12 := by have := HN.out; omega
      have hkr := HKR.out u
      have hsb : -2000000000000 ≤ kB R V v k u L u ∧ kB R V v k u L u ≤ 2000000000000 := by
        have h1 := HLB.out u hut
        have h2 := HKV.out
        unfold kB
        rw [if_neg (show ¬ u < u by omega)]
        split
        · rename_i e; subst e; omega
        · omega
      have w1 : IntKind.i64.wrap (k * R v u) = k * R v u := IntWalk.i64_in _ (by omega)
      have w2 : IntKind.i64.wrap (kB R V v k u L u + k * R v u) = kB R V v k u L u + k * R v u := IntWalk.i64_in _ (by omega)
      have wu : IntKind.i64.wrap ((u : Int) + 1) = (u : Int) + 1 := IntWalk.i64_in _ (by omega)
      have HP2 : Hid (Bo W0 (W3.setCell ⟨bl, u, none⟩ (.int .i64 (kB R V v k u L u + k * R v u))).drew b bl cl N q R V (kB R V v k (u + 1) L)) :=
        ((HP.out.setL u _).congr (fun _ _ _ _ => rfl) (fun _ _ => rfl) (fun j _ => kB_succ _ _ _ _ _ _ _)).mono (Below.drew (Below.refl _ _))
      have HK2 : Hid (KeptB w (W3.setCell ⟨bl, u, none⟩ (.int .i64 (kB R V v k u L u + k * R v u))).drew (fun j => j = bl)) := kept_trans (kept_set (p := fun j => j = bl) HK.out rfl _ _) (kept_below (p := fun _ => False) (Below.drew (Below.refl _ _))) (fun _ h => h.elim)
      generalize kB R V v k u L u = x at *
      generalize hrr : R v u = r at *
      clear hkr hsb HP HK
      let S : World → Prop := fun w' => w'.cell? ⟨b, 157, none⟩ = some (.slice (some ⟨bl, 0, none⟩) N cl) ∧ w'.cell? ⟨bl, u, none⟩ = some (.int .i64 x) ∧ w'.cell? ⟨b, 1 + v * 12 + u, none⟩ = some (.int .i64 r)
      go_wp2
      (refine wp_region_text 19 [0,1,2,3,4,5,6,7,8,9,10,11,12,13,14,15,16,17,18] S (by kernel_rfl) (by kernel_rfl) (by intro _ _ d _ _ h; cases d <;> exact h) ?hS ?_; rotate_left; simp only [List.map_cons, List.map_nil, List.getD_cons_zero, List.getD_cons_succ, List.drop_succ_cons, List.drop_zero])
      case hS => exact ⟨p0, c1, c2⟩
      (repeat ((refine' wpSeq_take rfl _ (by rfl) ?_ ?_; rotate_left; focus (intro w' hS; (try dsimp only at hS); obtain ⟨s1, s2, s3⟩ := hS; go_simp; (first | done | with_reducible rfl)); (try simp only [Act.put, List.setIfInBounds_toArray, List.set_cons_zero, List.set_cons_succ])); (try simp only [Act.put, List.setIfInBounds_toArray, List.set_cons_zero, List.set_cons_succ])))
      refine wpSeq_nil ?_
      clear S
      go_wp2
      go_roundw
      case rel => exact ⟨u + 1, by omega, by go_num, HP2, HK2⟩
      case measure => simp [intOf]; omega
    · obtain rfl : u = N := by omega
      have hu1 : ¬ (u : Int) < (u : Int) := by omega
      have HPN : Hid (Bo W0 W3 b bl cl u q R V (firB R V v k L)) := HP.out.congr (fun _ _ _ _ => rfl) (fun _ _ => rfl) (fun j hj => kB_end _ _ _ _ _ _ _ hj)
      go_wp2
      go_end0
      exact ⟨rfl, HPN.out, HK.out⟩

end Go.Proofs.YtbjoblkigbphhaaGreat

namespace Go.Proofs.YtbjoblkigbphhaaGreat
set_option linter.unusedVariables false
set_option linter.unusedSimpArgs false
open Go.RowKit

set_option maxRecDepth 100000 in
set_option maxHeartbeats 2000000 in
/-- A script that is stabilizing is found to be so. -/
theorem b_stabil {W0 w : World} {b bl cl N : Nat} {q : Int} {R : Nat → Nat → Int} {V L : Nat → Int} (h : Bo W0 w b bl cl N q R V L) (S : Nat → Int) (sv : Value) (hs : IntsR w sv (vecOf N S))
    (hS : ∀ v, v < N → 0 ≤ S v ∧ ((v : Int) = q → S v = 0) ∧ unsB q V L v = false) :
    Calls Tryz.prog 89 #[.pointer (some ⟨b, 0, none⟩), sv] w fun e w' => e = .returned (.bool true) ∧ Below w.heap.size w w' := by
  have hs' := hs
  obtain ⟨sa, sc, rfl, _⟩ := hs'
  have HP := hid h
  have HS := hid hS
  have HI := hid hs
  have hN := hid h.n
  have hl := vecOf_len N S
  rw [hl] at HI ⊢
  clear h hS hs hl
  go_enter Tryz.func89, Tryz.ntmps89
  go_wp2
  go_loopw [9] (fun i wr => ∃ v : Nat, v ≤ N ∧ i = .int .i64 v ∧ Hid (Below w.heap.size w wr)) (fun i _ => N - (intOf i).toNat)
  case atStart => exact ⟨0, Nat.zero_le _, rfl, Below.refl _ _⟩
  case round =>
    obtain ⟨v, hv, rfl, HB⟩ := hrel
    obtain ⟨W3, rfl⟩ : ∃ W : World, W = wr := ⟨_, rfl⟩
    by_cases hvt : v < N
    · obtain ⟨a1, c1', e1, _, _, _, hcs⟩ := HI.out.below HB.out
      rw [vecOf_len] at e1
      obtain ⟨rfl, rfl⟩ : sa = a1 ∧ sc = c1' := by simpa using e1
      obtain ⟨ba, off, rfl, hba, hx⟩ := hcs.int (by rw [vecOf_len]; omega)
      have x1 := hx v (by rw [vecOf_len]; exact hvt)
      rw [vecOf_get _ _ _ hvt] at x1
      have HP3 := hid (HP.out.mono HB.out)
      have p0 := HP3.out.cq
      have l0 := HP3.out.blk.lt
      have hun := hid (b_unst HP3.out v hvt)
      obtain ⟨s1, s2, s3⟩ := HS.out v hvt
      rw [s3] at hun
      have hv1 : (v : Int) < (N : Int) := by omega
      have hv0 : (0 : Int) ≤ (v : Int) := by omega
      have wv : IntKind.i64.wrap ((v : Int) + 1) = (v : Int) + 1 := IntWalk.i64_in _ (by have := hN.out; omega)
      have hn0 : ¬ S v < 0 := by omega
      by_cases hq : (v : Int) = q
      · have hz : S v = 0 := s2 hq
        rw [hz] at x1
        have hqb : ((v : Int) == q) = true := by simpa using hq
        clear s1 s2 s3 hn0 hz hx e1 hq
        go_wp2_with fail
        refine hun.out.mono ?_
        rintro e w4 ⟨rfl, hB4⟩
        dsimp only
        go_wp2_with fail
        go_roundw
        case rel => exact ⟨v + 1, by omega, by go_num, up HB.out hB4⟩
        case measure => simp [intOf]; omega
      · have hqb : ((v : Int) == q) = false := by simpa using hq
        generalize S v = x at *
        clear s1 s2 s3 hx e1 hq
        go_wp2_with fail
        refine hun.out.mono ?_
        rintro e w4 ⟨rfl, hB4⟩
        dsimp only
        go_wp2_with fail
        go_roundw
        case rel => exact ⟨v + 1, by omega, by go_num, up HB.out hB4⟩
        case measure => simp [intOf]; omega
    · obtain rfl : v = N := by omega
      go_wp2
      go_ret
      exact ⟨rfl, HB.out⟩

/-- A set of vertices, as cells. -/
def setA (I : Nat → Bool) : Array Value := #[.bool (I 0), .bool (I 1), .bool (I 2), .bool (I 3), .bool (I 4), .bool (I 5), .bool (I 6), .bool (I 7), .bool (I 8), .bool (I 9), .bool (I 10), .bool (I 11)]
def insB (R : Nat → Nat → Int) (I : Nat → Bool) (v : Nat) (k : Nat) : Int := sumTo (fun u => if I u then R v u else 0) k
set_option maxRecDepth 100000 in
theorem run_index_set (I : Nat → Bool) : ∀ u : Nat, u < 12 → ∀ W : World, (Instr.index 128 (.agg #[.bool (I 0), .bool (I 1), .bool (I 2), .bool (I 3), .bool (I 4), .bool (I 5), .bool (I 6), .bool (I 7), .bool (I 8), .bool (I 9), .bool (I 10), .bool (I 11)]) (.int .i64 u)).run Tryz.prog W = .ok (.bool (I u)) W
  | 0, _, W => by kernel_rfl
  | 1, _, W => by kernel_rfl
  | 2, _, W => by kernel_rfl
  | 3, _, W => by kernel_rfl
  | 4, _, W => by kernel_rfl
  | 5, _, W => by kernel_rfl
  | 6, _, W => by kernel_rfl
  | 7, _, W => by kernel_rfl
  | 8, _, W => by kernel_rfl
  | 9, _, W => by kernel_rfl
  | 10, _, W => by kernel_rfl
  | 11, _, W => by kernel_rfl
  | n + 12, h, _ => by omega

set_option maxRecDepth 100000 in
set_option maxHeartbeats 4000000 in
theorem b_inside {W0 w : World} {b bl cl N : Nat} {q : Int} {R : Nat → Nat → Int} {V L : Nat → Int} (h : Bo W0 w b bl cl N q R V L) (I : Nat → Bool) (v : Nat) (hv : v < N) (hR : ∀ u, 0 ≤ R v u ∧ R v u ≤ 100000) :
    Calls Tryz.prog 92 #[.pointer (some ⟨b, 0, none⟩), .agg (setA I), .int .i64 v] w fun e w' => e = .returned (.int .i64 (insB R I v 12)) ∧ Below w.heap.size w w' := by
  have hN := h.n
  have HB : Hid (∀ k : Nat, k ≤ 12 → 0 ≤ insB R I v k ∧ insB R I v k ≤ 100000 * k) := fun k => by
    induction k with
    | zero => intro _; exact ⟨Int.le_refl _, by show (0 : Int) ≤ _; omega⟩
    | succ k ih =>
      intro hk
      have := ih (by omega)
      have e : insB R I v (k + 1) = insB R I v k + if I k then R v k else 0 := rfl
      rw [e]
      have := hR k
      split <;> omega
  have HP := hid (h.mono (Below.alloc (Below.refl _ _) (Nat.le_refl _) (.cells (setA I) 128)))
  have HV : Hid (v < 12) := by show _ < _; omega
  have HST : Hid (∀ k, insB R I v (k + 1) = insB R I v k + if I k then R v k else 0) := fun k => rfl
  have HZ0 : Hid (insB R I v 0 = 0) := rfl
  have HRv : Hid (∀ u, 0 ≤ R v u ∧ R v u ≤ 100000) := hR
  clear h hN hR hv
  generalize insB R I v = z at *
  unfold setA at *
  go_enter Tryz.func92, Tryz.ntmps92
  go_wp2
  go_loopw [7, 11] (fun n i wr => ∃ u : Nat, u ≤ 12 ∧ i = .int .i64 u ∧ n = .int .i64 (z u) ∧ wr = (w.alloc (.cells #[.bool (I 0), .bool (I 1), .bool (I 2), .bool (I 3), .bool (I 4), .bool (I 5), .bool (I 6), .bool (I 7), .bool (I 8), .bool (I 9), .bool (I 10), .bool (I 11)] 128))) (fun _ i _ => 12 - (intOf i).toNat)
  case atStart => exact ⟨0, Nat.zero_le _, rfl, by rw [HZ0.out], rfl⟩
  case round =>
    obtain ⟨u, hu, rfl, rfl, rfl⟩ := hrel
    by_cases hut : u < 12
    · have hu1 : (u : Int) < 12 := by omega
      have hu0 : (0 : Int) ≤ (u : Int) := by omega
      have hix := run_index_set I u hut
      have wu : IntKind.i64.wrap ((u : Int) + 1) = (u : Int) + 1 := IntWalk.i64_in _ (by omega)
      have hst := HST.out u
      have hzb := HB.out u (by omega)
      have hrb := HRv.out u
      have c1 := HP.out.cR v u HV.out hut
      have l0 := HP.out.blk.lt
      have hv1 : (v : Int) < 12 := by have := HV.out; omega
      have hv0 : (0 : Int) ≤ (v : Int) := by omega
      have wz : IntKind.i64.wrap (z u + R v u) = z u + R v u := IntWalk.i64_in _ (by omega)
      have HST1 := hid hst
      generalize hzz : z u = zu at *
      generalize R v u = r at *
      clear hst hzb hrb
      cases hI : I u with
      | true =>
        rw [hI] at hix HST1
        go_wp2_with fail
        go_roundw
        case rel => exact ⟨u + 1, by omega, by go_num, by rw [HST1.out]; simp, trivial⟩
        case measure => simp [intOf]; omega
      | false =>
        rw [hI] at hix HST1
        go_wp2_with fail
        go_roundw
        case rel => exact ⟨u + 1, by omega, by go_num, by rw [HST1.out]; simp, trivial⟩
        case measure => simp [intOf]; omega
    · obtain rfl : u = 12 := by omega
      go_wp2_with fail
      go_ret
      exact ⟨rfl, by go_grown⟩

end Go.Proofs.YtbjoblkigbphhaaGreat

namespace Go.Proofs.YtbjoblkigbphhaaGreat
set_option linter.unusedVariables false
set_option linter.unusedSimpArgs false
open Go.RowKit

theorem load_set {w : World} {b : Nat} {I : Nat → Bool} (h : Blk w b (setA I) 128) : (loadVar 128 ⟨b, 0, none⟩).run Tryz.prog w = .ok (.agg (setA I)) w :=
  run_loadVar_row _ _ 128 128 (setA I) (0, 0) _ h (by kernel_rfl : Tryz.prog.underlying 128 = some (.array 12 4)) rfl (by rw [show (setA I).size = 12 from rfl]; kernel_rfl)
theorem setA_at (I : Nat → Bool) : ∀ u, u < 12 → (setA I)[u]? = some (.bool (I u))
  | 0, _ => rfl
  | 1, _ => rfl
  | 2, _ => rfl
  | 3, _ => rfl
  | 4, _ => rfl
  | 5, _ => rfl
  | 6, _ => rfl
  | 7, _ => rfl
  | 8, _ => rfl
  | 9, _ => rfl
  | 10, _ => rfl
  | 11, _ => rfl
  | n + 12, h => by omega
theorem setA_set (I : Nat → Bool) (x : Bool) : ∀ u, u < 12 → (setA I).setIfInBounds u (.bool x) = setA (fun i => if i = u then x else I i)
  | 0, _ => by simp [setA]
  | 1, _ => by simp [setA]
  | 2, _ => by simp [setA]
  | 3, _ => by simp [setA]
  | 4, _ => by simp [setA]
  | 5, _ => by simp [setA]
  | 6, _ => by simp [setA]
  | 7, _ => by simp [setA]
  | 8, _ => by simp [setA]
  | 9, _ => by simp [setA]
  | 10, _ => by simp [setA]
  | 11, _ => by simp [setA]
  | n + 12, h => by omega
theorem set12 {w W0 : World} {r : Nat} {J I : Nat → Bool} {B : Nat} (h : Blk w r (setA J) 128) (hr : B ≤ r) (hB : Below B W0 w) :
    Blk ((((((((((((w.setCell ⟨r, 0, none⟩ (.bool (I 0))).setCell ⟨r, 1, none⟩ (.bool (I 1))).setCell ⟨r, 2, none⟩ (.bool (I 2))).setCell ⟨r, 3, none⟩ (.bool (I 3))).setCell ⟨r, 4, none⟩ (.bool (I 4))).setCell ⟨r, 5, none⟩ (.bool (I 5))).setCell ⟨r, 6, none⟩ (.bool (I 6))).setCell ⟨r, 7, none⟩ (.bool (I 7))).setCell ⟨r, 8, none⟩ (.bool (I 8))).setCell ⟨r, 9, none⟩ (.bool (I 9))).setCell ⟨r, 10, none⟩ (.bool (I 10))).setCell ⟨r, 11, none⟩ (.bool (I 11))) r (setA I) 128 ∧ Below B W0 ((((((((((((w.setCell ⟨r, 0, none⟩ (.bool (I 0))).setCell ⟨r, 1, none⟩ (.bool (I 1))).setCell ⟨r, 2, none⟩ (.bool (I 2))).setCell ⟨r, 3, none⟩ (.bool (I 3))).setCell ⟨r, 4, none⟩ (.bool (I 4))).setCell ⟨r, 5, none⟩ (.bool (I 5))).setCell ⟨r, 6, none⟩ (.bool (I 6))).setCell ⟨r, 7, none⟩ (.bool (I 7))).setCell ⟨r, 8, none⟩ (.bool (I 8))).setCell ⟨r, 9, none⟩ (.bool (I 9))).setCell ⟨r, 10, none⟩ (.bool (I 10))).setCell ⟨r, 11, none⟩ (.bool (I 11))) := by
  refine ⟨?_, ((((((((((((hB.setCell (p := ⟨r, 0, none⟩) hr (.bool (I 0))).setCell (p := ⟨r, 1, none⟩) hr (.bool (I 1))).setCell (p := ⟨r, 2, none⟩) hr (.bool (I 2))).setCell (p := ⟨r, 3, none⟩) hr (.bool (I 3))).setCell (p := ⟨r, 4, none⟩) hr (.bool (I 4))).setCell (p := ⟨r, 5, none⟩) hr (.bool (I 5))).setCell (p := ⟨r, 6, none⟩) hr (.bool (I 6))).setCell (p := ⟨r, 7, none⟩) hr (.bool (I 7))).setCell (p := ⟨r, 8, none⟩) hr (.bool (I 8))).setCell (p := ⟨r, 9, none⟩) hr (.bool (I 9))).setCell (p := ⟨r, 10, none⟩) hr (.bool (I 10))).setCell (p := ⟨r, 11, none⟩) hr (.bool (I 11)))⟩
  have h1 := ((((((((((((h.set 0 (.bool (I 0))).set 1 (.bool (I 1))).set 2 (.bool (I 2))).set 3 (.bool (I 3))).set 4 (.bool (I 4))).set 5 (.bool (I 5))).set 6 (.bool (I 6))).set 7 (.bool (I 7))).set 8 (.bool (I 8))).set 9 (.bool (I 9))).set 10 (.bool (I 10))).set 11 (.bool (I 11)))
  have e : (((((((((((((setA J).setIfInBounds 0 (.bool (I 0))).setIfInBounds 1 (.bool (I 1))).setIfInBounds 2 (.bool (I 2))).setIfInBounds 3 (.bool (I 3))).setIfInBounds 4 (.bool (I 4))).setIfInBounds 5 (.bool (I 5))).setIfInBounds 6 (.bool (I 6))).setIfInBounds 7 (.bool (I 7))).setIfInBounds 8 (.bool (I 8))).setIfInBounds 9 (.bool (I 9))).setIfInBounds 10 (.bool (I 10))).setIfInBounds 11 (.bool (I 11))) = setA I := by simp [setA]
  rw [e] at h1
  exact h1
/-- How many there are. -/
def cntI (I : Nat → Bool) : Nat → Nat
  | 0 => 0
  | k + 1 => cntI I k + if I k then 1 else 0
theorem cntI_le {I J : Nat → Bool} (h : ∀ i, J i = true → I i = true) : ∀ k, cntI J k ≤ cntI I k
  | 0 => Nat.le_refl _
  | k + 1 => by
    have := cntI_le h k
    show cntI J k + (if J k then 1 else 0) ≤ cntI I k + if I k then 1 else 0
    by_cases hk : J k = true
    · rw [if_pos hk, if_pos (h k hk)]; omega
    · rw [if_neg hk]; omega
theorem cntI_off {I : Nat → Bool} {v : Nat} (hv : I v = true) : ∀ k, v < k → cntI (fun i => if i = v then false else I i) k < cntI I k
  | 0, h => by omega
  | k + 1, h => by
    have e1 : cntI I (k + 1) = cntI I k + if I k then 1 else 0 := rfl
    have e2 : cntI (fun i => if i = v then false else I i) (k + 1) = cntI (fun i => if i = v then false else I i) k + if (if k = v then false else I k) = true then 1 else 0 := rfl
    rw [e1, e2]
    by_cases e : k = v
    · have h1 := cntI_le (I := I) (J := fun i => if i = v then false else I i) (fun i hi => by by_cases e : i = v <;> simp_all) k
      rw [if_pos e, if_neg (by decide), e, if_pos hv]
      rw [e] at h1
      omega
    · have := cntI_off hv k (by omega)
      rw [if_neg e]
      omega
theorem cntI_hi (I : Nat → Bool) : ∀ k, cntI I k ≤ k
  | 0 => Nat.le_refl _
  | k + 1 => by
    have := cntI_hi I k
    show cntI I k + (if I k then 1 else 0) ≤ k + 1
    split <;> omega
theorem drewN_blk {w : World} {b : Nat} {cs : Array Value} {t : TypeId} (h : Blk w b cs t) : Blk w.drew b cs t := h

/-- What the greatest set is like. -/
structure Grt (N : Nat) (S L : Nat → Int) (R : Nat → Nat → Int) (I : Nat → Bool) : Prop where
  lt : ∀ v, I v = true → v < N ∧ 0 < S v
  ins : ∀ v, v < N → I v = true → L v < insB R I v 12

set_option maxRecDepth 100000 in
set_option maxHeartbeats 8000000 in
theorem b_greatest {W0 w : World} {b bl cl N : Nat} {q : Int} {R : Nat → Nat → Int} {V L : Nat → Int} (h : Bo W0 w b bl cl N q R V L) (S : Nat → Int) (sv : Value) (hs : IntsR w sv (vecOf N S))
    (hR : ∀ v u, 0 ≤ R v u ∧ R v u ≤ 100000) :
    Calls Tryz.prog 71 #[.pointer (some ⟨b, 0, none⟩), sv] w fun e w' => ∃ I, e = .returned (.agg (setA I)) ∧ Grt N S L R I ∧ Below w.heap.size w w' := by
  have hs' := hs
  obtain ⟨sa, sc, rfl, _⟩ := hs'
  have HP := hid h
  have HI := hid hs
  have hN := hid h.n
  have HR := hid hR
  have hl := vecOf_len N S
  rw [hl] at HI ⊢
  clear h hs hl hR
  go_enter Tryz.func71, Tryz.ntmps71
  obtain ⟨W2, hW2⟩ : ∃ W2, W2 = (w.alloc (.cells (setA fun _ => false) 128)).alloc (.cells (setA fun _ => false) 128) := ⟨_, rfl⟩
  have H4 : Hid (Blk W2 w.heap.size (setA fun _ => false) 128) := by rw [hW2]; exact (Blk.new _ _ _).alloc _
  have H5 : Hid (Blk W2 (w.heap.size + 1) (setA fun i => if i < 0 then decide (0 < S i) else false) 128) := by
    have h := Blk.new (w.alloc (.cells (setA fun _ => false) 128)) (setA fun _ => false) 128
    rw [World.size_alloc] at h
    rw [hW2]
    exact h
  have HB2 : Hid (Below w.heap.size w W2) := by rw [hW2]; exact ((Below.refl _ _).alloc (Nat.le_refl _) _).alloc (by simp) _
  have HW2 := hid hW2
  obtain ⟨r4, hr4⟩ : ∃ r4, r4 = w.heap.size := ⟨_, rfl⟩
  obtain ⟨r5, hr5⟩ : ∃ r5, r5 = w.heap.size + 1 := ⟨_, rfl⟩
  have HO : Hid (r4 = w.heap.size ∧ r5 = w.heap.size + 1) := ⟨hr4, hr5⟩
  clear hW2
  go_wp2_with fail
  have e2 := HW2.out
  unfold setA at e2
  rw [← e2]
  clear e2 HW2
  rw [← hr4] at H4
  rw [← hr5] at H5
  rw [← hr5, ← hr4]
  clear hr4 hr5
  go_loopw [12] (fun i wr => ∃ v : Nat, v ≤ N ∧ i = .int .i64 v ∧ Hid (Blk wr r4 (setA fun _ => false) 128) ∧ Hid (Blk wr r5 (setA fun i => if i < v then decide (0 < S i) else false) 128) ∧ Hid (Below w.heap.size w wr)) (fun i _ => N - (intOf i).toNat)
  case atStart => exact ⟨0, Nat.zero_le _, rfl, H4, H5, HB2⟩
  case round =>
    clear H4 H5 HB2
    obtain ⟨v, hv, rfl, H4, H5, HB⟩ := hrel
    obtain ⟨W3, rfl⟩ : ∃ W : World, W = wr := ⟨_, rfl⟩
    by_cases hvt : v < N
    · obtain ⟨a1, c1', e1, _, _, _, hcs⟩ := HI.out.below HB.out
      rw [vecOf_len] at e1
      obtain ⟨rfl, rfl⟩ : sa = a1 ∧ sc = c1' := by simpa using e1
      obtain ⟨ba, off, rfl, hba, hx⟩ := hcs.int (by rw [vecOf_len]; omega)
      have x1 := hx v (by rw [vecOf_len]; exact hvt)
      rw [vecOf_get _ _ _ hvt] at x1
      have hv1 : (v : Int) < (N : Int) := by omega
      have hv0 : (0 : Int) ≤ (v : Int) := by omega
      have hv12 : (v : Int) < 12 := by have := hN.out; omega
      have hvN : v < 12 := by have := hN.out; omega
      have wv : IntKind.i64.wrap ((v : Int) + 1) = (v : Int) + 1 := IntWalk.i64_in _ (by omega)
      have l5 := H5.out.lt
      have f5 := H5.out.frozen v
      have c5 := H5.out.cell v
      rw [setA_at _ v hvN] at c5
      have h45 : r4 ≠ r5 := by have := HO.out; omega
      have HS := hid (H5.out.set v (.bool (decide (0 < S v))))
      rw [setA_set _ _ v hvN] at HS
      have HS2 : Hid (Blk (W3.setCell ⟨r5, v, none⟩ (.bool (decide (0 < S v)))) r5 (setA fun i => if i < v + 1 then decide (0 < S i) else false) 128) := by
        have h := HS.out
        rwa [show (fun i => if i = v then decide (0 < S v) else if i < v then decide (0 < S i) else false) = (fun i => if i < v + 1 then decide (0 < S i) else false) from funext fun i => by
          by_cases e : i = v
          · subst e; simp
          · by_cases e2 : i < v
            · rw [if_neg e, if_pos e2, if_pos (by omega)]
            · rw [if_neg e, if_neg e2, if_neg (by omega)]] at h
      have H42 := hid (H4.out.other h45 v (.bool (decide (0 < S v))))
      have HB3 := hid (HB.out.setCell (p := ⟨r5, v, none⟩) (by have := HO.out; dsimp only; omega) (.bool (decide (0 < S v))))
      generalize hdd : decide (0 < S v) = dd at *
      generalize hsx : S v = sx at *
      by_cases hpos : 0 < sx
      · obtain rfl : dd = true := by rw [← hdd]; simpa using hpos
        clear hx e1 HS hdd hsx
        go_wp2_with fail
        go_roundw
        case rel => exact ⟨v + 1, by omega, by go_num, H42, HS2, HB3⟩
        case measure => simp [intOf]; omega
      · obtain rfl : dd = false := by rw [← hdd]; simpa using hpos
        clear hx e1 HS hdd hsx
        go_wp2_with fail
        go_roundw
        case rel => exact ⟨v + 1, by omega, by go_num, H42, HS2, HB3⟩
        case measure => simp [intOf]; omega
    · obtain rfl : v = N := by omega
      have hG : Hid (∀ i, (if i < v then decide (0 < S i) else false) = true → i < v ∧ 0 < S i) := fun i hi => by
        by_cases e : i < v
        · rw [if_pos e] at hi; exact ⟨e, by simpa using hi⟩
        · rw [if_neg e] at hi; cases hi
      have hG' : Hid (∃ I0 : Nat → Bool, I0 = (fun i => if i < v then decide (0 < S i) else false) ∧ ∀ i, I0 i = true → i < v ∧ 0 < S i) := ⟨_, rfl, hG.out⟩
      obtain ⟨I0, hI0, hG2⟩ := hG'.out
      rw [← hI0] at H5
      have HG0 := hid hG2
      clear hG hG' hI0 hG2
      have hm0 := cntI_hi I0 12
      clear hv
      go_wp2_with fail
      go_loopg [8] 26 (fun k bv wr => ∃ (I : Nat → Bool) (burns : Bool), bv = .bool burns ∧ Hid (Blk wr r4 (setA fun _ => false) 128) ∧ Hid (Blk wr r5 (setA I) 128) ∧ Hid (Below w.heap.size w wr) ∧
        Hid (∀ i, I i = true → i < v ∧ 0 < S i) ∧ Hid (burns = false → ∀ u, u < v → I u = true → L u < insB R I u 12) ∧ Hid (2 * cntI I 12 + (if burns then 1 else 0) < k))
      case atStart => exact ⟨I0, true, rfl, H4, H5, HB, HG0, (fun h => absurd h (by decide)), by show 2 * cntI I0 12 + (if true = true then 1 else 0) < 26; simp; omega⟩
      case round =>
        clear H4 H5 HB HG0 hm0
        obtain ⟨I, burns, rfl, H4, H5, HB, HG, HF, HM⟩ := hrel
        obtain ⟨W4, rfl⟩ : ∃ W : World, W = wr := ⟨_, rfl⟩
        cases burns with
        | false =>
          have hfin := HF.out rfl
          have HGR : Hid (Grt v S L R I) := ⟨HG.out, hfin⟩
          have h45 : r4 ≠ r5 := by have := HO.out; omega
          have d0 := H5.out.cell 0
          have d1 := H5.out.cell 1
          have d2 := H5.out.cell 2
          have d3 := H5.out.cell 3
          have d4 := H5.out.cell 4
          have d5 := H5.out.cell 5
          have d6 := H5.out.cell 6
          have d7 := H5.out.cell 7
          have d8 := H5.out.cell 8
          have d9 := H5.out.cell 9
          have d10 := H5.out.cell 10
          have d11 := H5.out.cell 11
          rw [setA_at _ _ (by omega)] at d0 d1 d2 d3 d4 d5 d6 d7 d8 d9 d10 d11
          have e0 := H4.out.cell 0
          have e1 := H4.out.cell 1
          have e2 := H4.out.cell 2
          have e3 := H4.out.cell 3
          have e4 := H4.out.cell 4
          have e5 := H4.out.cell 5
          have e6 := H4.out.cell 6
          have e7 := H4.out.cell 7
          have e8 := H4.out.cell 8
          have e9 := H4.out.cell 9
          have e10 := H4.out.cell 10
          have e11 := H4.out.cell 11
          rw [setA_at _ _ (by omega)] at e0 e1 e2 e3 e4 e5 e6 e7 e8 e9 e10 e11
          have f0 := H4.out.frozen 0
          have f1 := H4.out.frozen 1
          have f2 := H4.out.frozen 2
          have f3 := H4.out.frozen 3
          have f4 := H4.out.frozen 4
          have f5 := H4.out.frozen 5
          have f6 := H4.out.frozen 6
          have f7 := H4.out.frozen 7
          have f8 := H4.out.frozen 8
          have f9 := H4.out.frozen 9
          have f10 := H4.out.frozen 10
          have f11 := H4.out.frozen 11
          have l4 := H4.out.lt
          have l5 := H5.out.lt
          clear hfin
          go_wp2_with fail
          obtain ⟨hb4, hB4⟩ := set12 (I := I) H4.out (B := w.heap.size) (by have := HO.out; omega) HB.out
          exact bodyPost_ret (results_cell1 rfl rfl (load_set hb4)) rfl ⟨I, rfl, HGR.out, hB4⟩
        | true =>
          have hM : 2 * cntI I 12 + 1 < gk := by have := HM.out; simpa using this
          have HM2 := hid hM
          clear HF HM hM
          go_wp2_with fail
          go_loopw [8, 25] (fun bv iv wr => ∃ (u : Nat) (J : Nat → Bool) (burns : Bool), u ≤ v ∧ iv = .int .i64 u ∧ bv = .bool burns ∧ Hid (Blk wr r4 (setA fun _ => false) 128) ∧ Hid (Blk wr r5 (setA J) 128) ∧ Hid (Below w.heap.size w wr) ∧
            Hid (∀ i, J i = true → i < v ∧ 0 < S i) ∧ Hid (burns = false → J = I ∧ ∀ i, i < u → I i = true → L i < insB R I i 12) ∧ Hid (burns = true → cntI J 12 < cntI I 12) ∧ Hid (cntI J 12 ≤ cntI I 12)) (fun _ iv _ => v - (intOf iv).toNat)
          case atStart => exact ⟨0, I, false, Nat.zero_le _, rfl, rfl, H4, H5, HB, HG, (fun _ => ⟨rfl, fun i hi => by omega⟩), (fun h => absurd h (by decide)), Nat.le_refl _⟩
          case round =>
            clear H4 H5 HB HG
            obtain ⟨u, J, burns, hu, rfl, rfl, H4, H5, HB, HG, HF, HT, HL⟩ := hrel
            obtain ⟨W5, rfl⟩ : ∃ W : World, W = wr := ⟨_, rfl⟩
            by_cases hut : u < v
            · have hu1 : (u : Int) < (v : Int) := by omega
              have hu0 : (0 : Int) ≤ (u : Int) := by omega
              have hu12 : (u : Int) < 12 := by have := hN.out; omega
              have huN : u < 12 := by have := hN.out; omega
              have wu : IntKind.i64.wrap ((u : Int) + 1) = (u : Int) + 1 := IntWalk.i64_in _ (by omega)
              have HP5 := hid (HP.out.mono HB.out)
              have p0 := HP5.out.cF
              have c1 := HP5.out.cL u hut
              have l0 := HP5.out.blk.lt
              have l1 := (owns_lt HP5.out.left).2
              have l5 := H5.out.lt
              have c5 := H5.out.cell u
              rw [setA_at _ u huN] at c5
              have d0 := H5.out.cell 0
              have d1 := H5.out.cell 1
              have d2 := H5.out.cell 2
              have d3 := H5.out.cell 3
              have d4 := H5.out.cell 4
              have d5 := H5.out.cell 5
              have d6 := H5.out.cell 6
              have d7 := H5.out.cell 7
              have d8 := H5.out.cell 8
              have d9 := H5.out.cell 9
              have d10 := H5.out.cell 10
              have d11 := H5.out.cell 11
              rw [setA_at _ _ (by omega)] at d0 d1 d2 d3 d4 d5 d6 d7 d8 d9 d10 d11
              obtain ⟨jv, hJ⟩ : ∃ jv, jv = J u := ⟨_, rfl⟩
              rw [← hJ] at c5
              have HJ := hid hJ
              let S1 : World → Prop := fun w' => w'.cell? ⟨b, 157, none⟩ = some (.slice (some ⟨bl, 0, none⟩) v cl) ∧ w'.cell? ⟨bl, u, none⟩ = some (.int .i64 (L u)) ∧ w'.cell? ⟨r5, u, none⟩ = some (.bool jv) ∧
                (w'.cell? ⟨r5, 0, none⟩ = some (.bool (J 0)) ∧ w'.cell? ⟨r5, 1, none⟩ = some (.bool (J 1)) ∧ w'.cell? ⟨r5, 2, none⟩ = some (.bool (J 2)) ∧ w'.cell? ⟨r5, 3, none⟩ = some (.bool (J 3)) ∧ w'.cell? ⟨r5, 4, none⟩ = some (.bool (J 4)) ∧ w'.cell? ⟨r5, 5, none⟩ = some (.bool (J 5)) ∧ w'.cell? ⟨r5, 6, none⟩ = some (.bool (J 6)) ∧ w'.cell? ⟨r5, 7, none⟩ = some (.bool (J 7)) ∧ w'.cell? ⟨r5, 8, none⟩ = some (.bool (J 8)) ∧ w'.cell? ⟨r5, 9, none⟩ = some (.bool (J 9)) ∧ w'.cell? ⟨r5, 10, none⟩ = some (.bool (J 10)) ∧ w'.cell? ⟨r5, 11, none⟩ = some (.bool (J 11)))
              have hS0 : S1 W5.drew := ⟨p0, c1, c5, d0, d1, d2, d3, d4, d5, d6, d7, d8, d9, d10, d11⟩
              have HS1 : Hid (∀ W', Below W5.heap.size W5 W' → S1 W') := fun W' hB => by
                have hb5 := H5.out.below hB
                have hp5 := HP5.out.mono hB
                refine ⟨hp5.cF, hp5.cL u hut, by rw [hb5.cell, setA_at _ _ (by omega), HJ.out], ?_, ?_, ?_, ?_, ?_, ?_, ?_, ?_, ?_, ?_, ?_, ?_⟩ <;> (rw [hb5.cell, setA_at _ _ (by omega)])
              have hin := hid (fun W' hB => b_inside (HP5.out.mono (w' := W') hB) J u hut (fun i => HR.out u i))
              clear p0 c1 c5 d0 d1 d2 d3 d4 d5 d6 d7 d8 d9 d10 d11
              have HLB := hid (HF.out)
              clear hJ
              cases jv with
              | false =>
                go_wp2_with fail
                let S := S1
                (refine wp_region_text 16 [0,1,2,3,4,5,6,7,8,9,10,11,12,13,14,15] S (by kernel_rfl) (by kernel_rfl) (by intro _ _ d _ _ h; cases d <;> exact h) ?hS ?_; rotate_left; simp only [List.map_cons, List.map_nil, List.getD_cons_zero, List.getD_cons_succ, List.drop_succ_cons, List.drop_zero])
                case hS => exact hS0
                (repeat ((refine' wpSeq_take rfl _ (by rfl) ?_ ?_; rotate_left; focus (intro w' hS; (try dsimp only at hS); obtain ⟨s1, s2, s3, s4, s5, s6, s7, s8, s9, s10, s11, s12, s13, s14, s15⟩ := hS; go_simp; (first | done | with_reducible rfl)); (try simp only [Act.put, List.setIfInBounds_toArray, List.set_cons_zero, List.set_cons_succ])); (try simp only [Act.put, List.setIfInBounds_toArray, List.set_cons_zero, List.set_cons_succ])))
                (repeat (refine wpSeq_skip (by rfl) ?_; (try simp only [Act.put, List.setIfInBounds_toArray, List.set_cons_zero, List.set_cons_succ])))
                (repeat ((refine' wpSeq_take rfl _ (by rfl) ?_ ?_; rotate_left; focus (intro w' hS; (try dsimp only at hS); obtain ⟨s1, s2, s3, s4, s5, s6, s7, s8, s9, s10, s11, s12, s13, s14, s15⟩ := hS; go_simp; (first | done | with_reducible rfl)); (try simp only [Act.put, List.setIfInBounds_toArray, List.set_cons_zero, List.set_cons_succ])); (try simp only [Act.put, List.setIfInBounds_toArray, List.set_cons_zero, List.set_cons_succ])))
                refine wpSeq_nil ?_
                clear S HS1 hS0 S1
                have H44 : Hid (Blk W5.drew r4 (setA fun _ => false) 128) := H4
                have H55 : Hid (Blk W5.drew r5 (setA J) 128) := H5
                have HB5 : Hid (Below w.heap.size w W5.drew) := HB.out.drew
                have HF3 : Hid (burns = false → J = I ∧ ∀ i, i < u + 1 → I i = true → L i < insB R I i 12) := fun h => by
                  obtain ⟨e1, h2⟩ := HF.out h
                  refine ⟨e1, fun i hi hIi => ?_⟩
                  by_cases e : i = u
                  · subst e; have := HJ.out; rw [e1, hIi] at this; cases this
                  · exact h2 i (by omega) hIi
                clear H4 H5 HB HF
                go_wp2_with fail
                go_roundw
                case rel => exact ⟨u + 1, J, burns, by omega, by go_num, rfl, H44, H55, HB5, HG, HF3, HT, HL⟩
                case measure => simp [intOf]; omega
              | true =>
                go_wp2_with fail
                let S := S1
                (refine wp_region_text 16 [0,1,2,3,4,5,6,7,8,9,10,11,12,13,14,15] S (by kernel_rfl) (by kernel_rfl) (by intro _ _ d _ _ h; cases d <;> exact h) ?hS ?_; rotate_left; simp only [List.map_cons, List.map_nil, List.getD_cons_zero, List.getD_cons_succ, List.drop_succ_cons, List.drop_zero])
                case hS => exact hS0
                (repeat ((refine' wpSeq_take rfl _ (by rfl) ?_ ?_; rotate_left; focus (intro w' hS; (try dsimp only at hS); obtain ⟨s1, s2, s3, s4, s5, s6, s7, s8, s9, s10, s11, s12, s13, s14, s15⟩ := hS; go_simp; (first | done | with_reducible rfl)); (try simp only [Act.put, List.setIfInBounds_toArray, List.set_cons_zero, List.set_cons_succ])); (try simp only [Act.put, List.setIfInBounds_toArray, List.set_cons_zero, List.set_cons_succ])))
                refine wpSeq_call rfl (by rfl) (fun K hK => ?_)
                go_simp
                refine (hin.out _ (Below.drew (Below.refl _ _))).mono ?_
                rintro e w6 ⟨rfl, hB6⟩
                have hB6' : Below W5.heap.size W5 w6 := (Below.drew (Below.refl _ _)).trans hB6
                have HB6 := hid hB6'
                refine hK _ _ (HS1.out _ hB6') ?_
                clear hK K hB6 hB6'
                (repeat ((refine' wpSeq_take rfl _ (by rfl) ?_ ?_; rotate_left; focus (intro w' hS; (try dsimp only at hS); obtain ⟨s1, s2, s3, s4, s5, s6, s7, s8, s9, s10, s11, s12, s13, s14, s15⟩ := hS; go_simp; (first | done | with_reducible rfl)); (try simp only [Act.put, List.setIfInBounds_toArray, List.set_cons_zero, List.set_cons_succ])); (try simp only [Act.put, List.setIfInBounds_toArray, List.set_cons_zero, List.set_cons_succ])))
                refine wpSeq_nil ?_
                clear S HS1 hS0 S1 hin
                have H44 := hid (H4.out.below HB6.out)
                have H55 := hid (H5.out.below HB6.out)
                have HB5 := hid (up HB.out HB6.out)
                have HIN : Hid (insB R J u 12 = insB R J u 12) := rfl
                have l5 := H55.out.lt
                have f5 := H55.out.frozen u
                have c5 := H55.out.cell u
                rw [setA_at _ u huN] at c5
                have h45 : r4 ≠ r5 := by have := HO.out; omega
                have HS := hid (H55.out.set u (.bool false))
                rw [setA_set _ _ u huN] at HS
                have H42 := hid (H44.out.other h45 u (.bool false))
                have HB3 := hid (HB5.out.setCell (p := ⟨r5, u, none⟩) (by have := HO.out; dsimp only; omega) (.bool false))
                have HT4 : Hid (cntI (fun i => if i = u then false else J i) 12 < cntI I 12) := Nat.lt_of_lt_of_le (cntI_off HJ.out.symm 12 huN) HL.out
                have HG4 : Hid (∀ i, (fun i => if i = u then false else J i) i = true → i < v ∧ 0 < S i) := fun i hi => by
                  by_cases e : i = u
                  · simp [e] at hi
                  · simp [e] at hi; exact HG.out i hi
                by_cases hge : insB R J u 12 ≤ L u
                · clear HF H4 H5 HB HT HG
                  generalize insB R J u 12 = z at *
                  generalize L u = y at *
                  go_wp2_with fail
                  go_roundw
                  case rel => exact ⟨u + 1, _, true, by omega, by go_num, rfl, H42, HS, HB3, HG4, (fun h => absurd h (by decide)), (fun _ => HT4.out), Nat.le_of_lt HT4.out⟩
                  case measure => simp [intOf]; omega
                · have HF3 : Hid (burns = false → J = I ∧ ∀ i, i < u + 1 → I i = true → L i < insB R I i 12) := fun h => by
                    obtain ⟨e1, h2⟩ := HF.out h
                    refine ⟨e1, fun i hi hIi => ?_⟩
                    by_cases e : i = u
                    · subst e; rw [← e1]; omega
                    · exact h2 i (by omega) hIi
                  clear HF H4 H5 HB
                  generalize insB R J u 12 = z at *
                  generalize L u = y at *
                  go_wp2_with fail
                  go_roundw
                  case rel => exact ⟨u + 1, J, burns, by omega, by go_num, rfl, H44, H55, HB5, HG, HF3, HT, HL⟩
                  case measure => simp [intOf]; omega
            · obtain rfl : u = v := by omega
              have HF2 : Hid (burns = false → ∀ i, i < u → J i = true → L i < insB R J i 12) := fun h => by
                obtain ⟨rfl, h2⟩ := HF.out h
                exact h2
              go_wp2_with fail
              go_roundg (gk - 1)
              case measure => have := HM2.out; omega
              case rel =>
                refine ⟨J, burns, rfl, H4, H5, HB, HG, HF2, ?_⟩
                show _ < _
                have h1 := HM2.out
                have h2 := HL.out
                cases burns with
                | false => simp; omega
                | true => have h3 := HT.out rfl; simp; omega

end Go.Proofs.YtbjoblkigbphhaaGreat
