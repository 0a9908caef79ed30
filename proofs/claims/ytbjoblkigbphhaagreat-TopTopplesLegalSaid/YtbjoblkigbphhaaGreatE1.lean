/-
  Contract of the program's firing: moved, Check, Apply, for any script.
-/
import Derived.Test.YtbjoblkigbphhaaGreatP40
import Derived.Test.YtbjoblkigbphhaaGreatAb6
namespace Go.Proofs.YtbjoblkigbphhaaGreat
set_option linter.unusedVariables false
set_option linter.unusedSimpArgs false
open Go.RowKit

/-- What an edge changes when a script is fired. -/
def fS (s : Nat → Int) (u : Nat) (x : E) : Int := (if (u : Int) = x.b then x.m * (s x.a.toNat - s x.b.toNat) else 0) - (if (u : Int) = x.a then x.m * (s x.a.toNat - s x.b.toNat) else 0)
theorem fS_edge (s : Nat → Int) (A B : Nat) (m : Int) (X : Nat → Int) (u : Nat) :
    (if u = B then (if B = A then X A - m * (s A - s B) else X B) + m * (s A - s B) else if u = A then X A - m * (s A - s B) else X u) = X u + fS s u ⟨A, B, m⟩ := by
  unfold fS
  dsimp only
  rw [Int.toNat_natCast, Int.toNat_natCast]
  generalize m * (s A - s B) = f
  by_cases h1 : u = B
  · subst h1
    by_cases h2 : u = A
    · subst h2; simp
    · have h3 : ¬ (u : Int) = (A : Int) := by omega
      simp [h2, h3]
  · have h3 : ¬ (u : Int) = (B : Int) := by omega
    by_cases h2 : u = A
    · subst h2; simp [h1, h3]; omega
    · have h4 : ¬ (u : Int) = (A : Int) := by omega
      simp [h1, h2, h3, h4]
theorem sum_fE (s : Nat → Int) (A B : Nat) (m : Int) (u N : Nat) (hA : A < N) (hB : B < N) : sumTo (fun v => s v * fE v u ⟨A, B, m⟩) N = fS s u ⟨A, B, m⟩ := by
  have e : ∀ v, s v * fE v u ⟨A, B, m⟩ = (if v = A then s A * fE A u ⟨A, B, m⟩ else 0) + (if v = B then (if A = B then 0 else s B * fE B u ⟨A, B, m⟩) else 0) := fun v => by
    by_cases h1 : v = A
    · subst h1
      by_cases h2 : v = B
      · subst h2; simp
      · simp [h2]
    · by_cases h2 : v = B
      · subst h2
        have : ¬ A = v := fun h => h1 h.symm
        simp [h1, this]
      · have z : fE v u ⟨A, B, m⟩ = 0 := by
          unfold fE valE rowE
          have h3 : ¬ (A : Int) = (v : Int) := by omega
          have h4 : ¬ (B : Int) = (v : Int) := by omega
          simp [h3, h4]
        rw [z]
        simp [h1, h2]
  rw [sumTo_congr _ _ N fun v _ => e v, sumTo_add, sumTo_one, sumTo_one, if_pos hA, if_pos hB]
  unfold fS fE valE rowE
  dsimp only
  rw [Int.toNat_natCast, Int.toNat_natCast]
  by_cases hAB : A = B
  · subst hAB; simp
  · have h0 : ¬ (A : Int) = (B : Int) := by omega
    have h0' : ¬ (B : Int) = (A : Int) := by omega
    have h0'' : ¬ B = A := fun h => hAB h.symm
    by_cases h1 : u = B
    · subst h1
      simp [hAB, h0, h0', h0'', Int.mul_sub, Int.mul_comm]
      rw [Int.mul_neg, Int.mul_comm (s u) m]; omega
    · have h3 : ¬ (u : Int) = (B : Int) := by omega
      have h3' : ¬ (B : Int) = (u : Int) := by omega
      by_cases h2 : u = A
      · subst h2
        simp [hAB, h0, h0', h0'', h1, h3, h3', Int.mul_sub, Int.mul_comm]
        rw [Int.mul_neg, Int.mul_comm (s u) m]; omega
      · have h4 : ¬ (u : Int) = (A : Int) := by omega
        have h4' : ¬ (A : Int) = (u : Int) := by omega
        simp [h0, h0', h1, h2, h3, h3', h4, h4', hAB]
def movS (g : G) (N : Nat) (s : Nat → Int) (L : Nat → Int) (k u : Nat) : Int := L u + sumTo (fun v => s v * sumE (fE v u) (g.es.take k)) N
theorem movS_zero (g : G) (N : Nat) (s : Nat → Int) (L : Nat → Int) (u : Nat) : movS g N s L 0 u = L u := by
  unfold movS
  rw [sumTo_congr _ (fun _ => 0) N fun v _ => by simp [sumE], sumTo_zero]
  omega
theorem movS_step (g : G) (N : Nat) (s : Nat → Int) (L : Nat → Int) (k u : Nat) (h : k < g.es.length) : movS g N s L (k + 1) u = movS g N s L k u + sumTo (fun v => s v * fE v u (g.es[k]?.getD default)) N := by
  unfold movS
  have e : ∀ v, s v * sumE (fE v u) (g.es.take (k + 1)) = s v * sumE (fE v u) (g.es.take k) + s v * fE v u (g.es[k]?.getD default) := fun v => by
    have := movTo_step g v L k u h
    unfold movTo at this
    rw [show sumE (fE v u) (g.es.take (k + 1)) = sumE (fE v u) (g.es.take k) + fE v u (g.es[k]?.getD default) by omega, Int.mul_add]
  rw [sumTo_congr _ _ N fun v _ => e v, sumTo_add]
  omega
theorem movS_end {g : G} (h : Gok g) (N : Nat) (hN : N = g.n.toNat) (s : Nat → Int) (L : Nat → Int) (u : Nat) (hu : u < N) : movS g N s L g.es.length u = movedV g L s u := by
  subst hN
  rw [moved_lap g L s u hu]
  unfold movS lapD
  have e : ∀ v, s v * sumE (fE v u) (g.es.take g.es.length) = (if v = u then -(s u * valence g u) else 0) + s v * rowsF g v u := fun v => by
    have h1 := movTo_end h v (fun _ => 0) u
    unfold movTo fireL at h1
    rw [show sumE (fE v u) (g.es.take g.es.length) = (if u = v then 0 - valence g v else 0) + rowsF g v u by omega]
    by_cases e : v = u
    · subst e; rw [if_pos rfl, if_pos rfl, Int.mul_add, Int.zero_sub, Int.mul_neg]
    · rw [if_neg e, if_neg (fun h => e h.symm), Int.zero_add, Int.zero_add]
  rw [sumTo_congr _ _ _ fun v _ => e v, sumTo_add, sumTo_one, if_pos hu]
  omega
theorem fS_bd (s : Nat → Int) (N : Nat) (hs : ∀ u, u < N → -1048576 ≤ s u ∧ s u ≤ 1048576) (A B : Nat) (hA : A < N) (hB : B < N) (m : Int) (hm : 0 ≤ m ∧ m ≤ 50) (u : Nat) : -419430400 ≤ fS s u ⟨A, B, m⟩ ∧ fS s u ⟨A, B, m⟩ ≤ 419430400 := by
  unfold fS
  dsimp only
  rw [Int.toNat_natCast, Int.toNat_natCast]
  have oA := hs A hA
  have oB := hs B hB
  have hfl : -209715200 ≤ m * (s A - s B) ∧ m * (s A - s B) ≤ 209715200 := by
    have h1 := Int.mul_le_mul hm.2 (show s A - s B + 2097152 ≤ 4194304 by omega) (by omega) (by omega)
    have h2 := Int.mul_le_mul hm.2 (show 2097152 - (s A - s B) ≤ 4194304 by omega) (by omega) (by omega)
    rw [Int.mul_add] at h1
    rw [Int.mul_sub] at h2
    omega
  split <;> split <;> omega
theorem movS_bd {g : G} (h : Gok g) (N : Nat) (s : Nat → Int) (hs : ∀ u, u < N → -1048576 ≤ s u ∧ s u ≤ 1048576) (L : Nat → Int) (u : Nat) (hL : -1000000000000 ≤ L u ∧ L u ≤ 1000000000000) (hN : g.n ≤ N) : ∀ k, k ≤ g.es.length → -1000000000000 - 419430400 * k ≤ movS g N s L k u ∧ movS g N s L k u ≤ 1000000000000 + 419430400 * k
  | 0, _ => by rw [movS_zero]; omega
  | k + 1, hk => by
    have ih := movS_bd h N s hs L u hL hN k (by omega)
    rw [movS_step g N s L k u (by omega)]
    have hm := h.mem (x := g.es[k]?.getD default) (by rw [List.getElem?_eq_getElem (by omega)]; exact List.getElem_mem _)
    generalize g.es[k]?.getD default = x at *
    obtain ⟨xa, xb, xm⟩ := x
    dsimp only at hm
    obtain ⟨A, rfl⟩ := Int.eq_ofNat_of_zero_le (show 0 ≤ xa by omega)
    obtain ⟨B, rfl⟩ := Int.eq_ofNat_of_zero_le (show 0 ≤ xb by omega)
    rw [sum_fE s A B xm u N (by omega) (by omega)]
    have := fS_bd s N hs A B (by omega) (by omega) xm (by omega) u
    omega

set_option maxRecDepth 100000 in
set_option maxHeartbeats 2000000 in
theorem f_alongS (N A B m : Nat) (hA : A < N) (hB : B < N) (hm : m ≤ 50) (s : Nat → Int) (hs : ∀ u, u < N → -1048576 ≤ s u ∧ s u ≤ 1048576) (X : Nat → Int) (hX : ∀ u, u < N → -2000000000000 ≤ X u ∧ X u ≤ 2000000000000) (base bs bo bl cl bz zo cz : Nat) (w : World)
    (c1 : w.cell? ⟨bs, 0, none⟩ = some (.slice (some ⟨bz, zo, none⟩) N cz)) (c2 : w.cell? ⟨bo, 0, none⟩ = some (.slice (some ⟨bl, 0, none⟩) N cl)) (hz : ∀ u, u < N → w.cell? ⟨bz, zo + u, none⟩ = some (.int .i64 (s u)))
    (ho : w.ownsRow base 3 1 (.slice (some ⟨bl, 0, none⟩) N cl) N ((vecOf N X).map (Value.int .i64))) (n1 : bs ≠ bl) (n2 : bo ≠ bl) (n3 : bz ≠ bl) (hbs : bs < w.heap.size) (hbo : bo < w.heap.size) (hbz : bz < w.heap.size) (hbase : base ≤ w.heap.size) :
    Calls Tryz.prog 61 #[.agg #[.int .i64 A, .int .i64 B, .int .i64 m], .pointer (some ⟨bs, 0, none⟩), .pointer (some ⟨bo, 0, none⟩)] w fun e w' => e = .returned (.tuple #[]) ∧
      w'.ownsRow base 3 1 (.slice (some ⟨bl, 0, none⟩) N cl) N ((vecOf N fun u => X u + fS s u ⟨A, B, m⟩).map (Value.int .i64)) ∧ KeptB w w' (fun k => k = bl) ∧ Below base w w' := by
  have hbl := owns_lt ho
  have z1 := hz A hA
  have z2 := hz B hB
  have hA0 : (0 : Int) ≤ (A : Int) := by omega
  have hA1 : (A : Int) < (N : Int) := by omega
  have hB0 : (0 : Int) ≤ (B : Int) := by omega
  have hB1 : (B : Int) < (N : Int) := by omega
  have oA := hs A hA
  have oB := hs B hB
  have HFE := hid (fun u => fS_edge s A B m X u)
  have HXb := hid hX
  have w1 : IntKind.i64.wrap (s A - s B) = s A - s B := IntWalk.i64_in _ (by omega)
  have hfl : -209715200 ≤ (m : Int) * (s A - s B) ∧ (m : Int) * (s A - s B) ≤ 209715200 := by
    have h1 := Int.mul_le_mul (show (m : Int) ≤ 50 by omega) (show s A - s B + 2097152 ≤ 4194304 by omega) (by omega) (by omega)
    have h2 := Int.mul_le_mul (show (m : Int) ≤ 50 by omega) (show 2097152 - (s A - s B) ≤ 4194304 by omega) (by omega) (by omega)
    rw [Int.mul_add] at h1
    rw [Int.mul_sub] at h2
    omega
  have w2 : IntKind.i64.wrap ((m : Int) * (s A - s B)) = (m : Int) * (s A - s B) := IntWalk.i64_in _ (by omega)
  have HW : Hid (Below w.heap.size w (w.alloc (.cells #[.int .i64 A, .int .i64 B, .int .i64 m] 96))) := (Below.refl _ _).alloc (Nat.le_refl _) _
  have HO := hid ho
  clear hX ho hz oA oB hs
  generalize hp : s A = p at *
  generalize hq : s B = r at *
  clear hp hq
  go_enter Tryz.func61, Tryz.ntmps61
  go_upto_region 1 with fail
  obtain ⟨W1, hW1⟩ : ∃ W : World, W = w.alloc (.cells #[.int .i64 A, .int .i64 B, .int .i64 m] 96) := ⟨_, rfl⟩
  rw [← hW1]
  have hE : Blk W1 w.heap.size #[.int .i64 A, .int .i64 B, .int .i64 m] 96 := by rw [hW1]; exact Blk.new _ _ _
  rw [← hW1] at HW
  clear hW1
  have e0 := hE.cell 0
  have e1 := hE.cell 1
  have e2 := hE.cell 2
  simp only [List.getElem?_toArray, List.getElem?_cons_zero, List.getElem?_cons_succ] at e0 e1 e2
  have d1 := (HW.out.cell (p := ⟨bs, 0, none⟩) hbs).trans c1
  have d2 := (HW.out.cell (p := ⟨bo, 0, none⟩) hbo).trans c2
  have y1 := (HW.out.cell (p := ⟨bz, zo + A, none⟩) hbz).trans z1
  have y2 := (HW.out.cell (p := ⟨bz, zo + B, none⟩) hbz).trans z2
  let S : World → Prop := fun w' => w'.cell? ⟨w.heap.size, 0, none⟩ = some (.int .i64 A) ∧ w'.cell? ⟨w.heap.size, 1, none⟩ = some (.int .i64 B) ∧ w'.cell? ⟨w.heap.size, 2, none⟩ = some (.int .i64 m) ∧ w'.cell? ⟨bs, 0, none⟩ = some (.slice (some ⟨bz, zo, none⟩) N cz) ∧
    w'.cell? ⟨bz, zo + A, none⟩ = some (.int .i64 p) ∧ w'.cell? ⟨bz, zo + B, none⟩ = some (.int .i64 r)
  (refine wp_region_text 14 [0,1,2,3,4,5,6,7,8,9,10,11,12,13] S (by kernel_rfl) (by kernel_rfl) (by intro _ _ d _ _ h; cases d <;> exact h) ?hS ?_; rotate_left; simp only [List.map_cons, List.map_nil, List.getD_cons_zero, List.getD_cons_succ, List.drop_succ_cons, List.drop_zero])
  case hS => exact ⟨e0, e1, e2, d1, y1, y2⟩
  (repeat ((refine' wpSeq_take rfl _ (by rfl) ?_ ?_; rotate_left; focus (intro w' hS; (try dsimp only at hS); obtain ⟨s1, s2, s3, s4, s5, s6⟩ := hS; go_simp; (first | done | with_reducible rfl)); (try simp only [Act.put, List.setIfInBounds_toArray, List.set_cons_zero, List.set_cons_succ])); (try simp only [Act.put, List.setIfInBounds_toArray, List.set_cons_zero, List.set_cons_succ])))
  refine wpSeq_nil ?_
  clear S
  generalize (m : Int) * (p - r) = fl at *
  have HO1 := hid (owns_below HO.out HW.out)
  have cA := owns_int HO1.out A hA
  rw [vecOf_get _ _ _ hA] at cA
  have fA := HO1.out.frozenAt A
  have lA := (owns_lt HO1.out).2
  have hXA := HXb.out A hA
  have hXB := HXb.out B hB
  have w3 : IntKind.i64.wrap (X A - fl) = X A - fl := IntWalk.i64_in _ (by omega)
  clear d1 y1 y2 c1 z1 z2 w1 w2
  go_upto_region 3 with fail
  obtain ⟨W2, hW2⟩ : ∃ W : World, W = (W1.setCell ⟨bl, A, none⟩ (.int .i64 (X A - fl))).drew := ⟨_, rfl⟩
  rw [← hW2]
  have HO2 : Hid (W2.ownsRow base 3 1 (.slice (some ⟨bl, 0, none⟩) N cl) N ((vecOf N fun u => if u = A then X A - fl else X u).map (Value.int .i64))) := by
    have h := owns_set (f := Value.int .i64) HO1.out A (X A - fl)
    rw [vecOf_set] at h
    rw [hW2]
    exact h.drew
  have HK2 : Hid (KeptB w W2 (fun k => k = bl)) := by
    rw [hW2]
    exact kept_trans (kept_set (p := fun k => k = bl) (kept_below HW.out) (b := bl) rfl _ _) (kept_below (p := fun _ => False) (Below.drew (Below.refl _ _))) (fun _ h => h.elim)
  have HB2 : Hid (Below base w W2) := by
    rw [hW2]
    exact ((HW.out.mono hbase).setCell (p := ⟨bl, A, none⟩) hbl.1 _).drew
  have hE2 : Blk W2 w.heap.size #[.int .i64 A, .int .i64 B, .int .i64 m] 96 := by
    rw [hW2]
    exact (hE.other (by omega) _ _)
  have d2' : W2.cell? ⟨bo, 0, none⟩ = some (.slice (some ⟨bl, 0, none⟩) N cl) := (HK2.out.cell bo 0 hbo n2).trans c2
  clear hW2 hE e0 e1 e2 d2 cA fA lA w3 HO1 c2
  have e0 := hE2.cell 0
  have e1 := hE2.cell 1
  simp only [List.getElem?_toArray, List.getElem?_cons_zero, List.getElem?_cons_succ] at e0 e1
  have cB := owns_int HO2.out B hB
  rw [vecOf_get _ _ _ hB] at cB
  have fB := HO2.out.frozenAt B
  have lB := (owns_lt HO2.out).2
  have hyb : -3000000000000 ≤ (if B = A then X A - fl else X B) ∧ (if B = A then X A - fl else X B) ≤ 3000000000000 := by split <;> omega
  have HO3 : Hid ((W2.setCell ⟨bl, B, none⟩ (.int .i64 ((if B = A then X A - fl else X B) + fl))).ownsRow base 3 1 (.slice (some ⟨bl, 0, none⟩) N cl) N ((vecOf N fun u => X u + fS s u ⟨A, B, m⟩).map (Value.int .i64))) := by
    have h := owns_set (f := Value.int .i64) HO2.out B ((if B = A then X A - fl else X B) + fl)
    rw [vecOf_set] at h
    rw [vecOf_congr N _ (fun u => X u + fS s u ⟨A, B, m⟩) (fun u _ => HFE.out u)] at h
    exact h
  have HK3 := hid (kept_set (p := fun k => k = bl) HK2.out (b := bl) rfl B (.int .i64 ((if B = A then X A - fl else X B) + fl)))
  have HB3 := hid (HB2.out.setCell (p := ⟨bl, B, none⟩) hbl.1 (.int .i64 ((if B = A then X A - fl else X B) + fl)))
  generalize (if B = A then X A - fl else X B) = y at *
  have w4 : IntKind.i64.wrap (y + fl) = y + fl := IntWalk.i64_in _ (by omega)
  clear HFE HXb HO hE2 hXA hXB hyb
  go_wp2
  go_end0
  exact ⟨rfl, HO3.out, HK3.out, HB3.out⟩

set_option maxRecDepth 100000 in
set_option maxHeartbeats 4000000 in
theorem f_movedS (g : G) (gv : Value) (N : Nat) (hN1 : (N : Int) ≤ g.n) (hN2 : g.n ≤ (N : Int)) (hk : Gok g) (s : Nat → Int) (hsb : ∀ u, u < N → -1048576 ≤ s u ∧ s u ≤ 1048576) (L : Nat → Int) (hL : ∀ u, u < N → -1000000000000 ≤ L u ∧ L u ≤ 1000000000000) (dv : Value) (bz zo cz : Nat) (w : World)
    (hg : GrR w gv g) (hd : IntsR w dv (vecOf N L)) (hz : ∀ u, u < N → w.cell? ⟨bz, zo + u, none⟩ = some (.int .i64 (s u))) (hbz : bz < w.heap.size) :
    Calls Tryz.prog 36 #[gv, dv, .slice (some ⟨bz, zo, none⟩) N cz] w fun e w' => ∃ b c, e = .returned (.slice (some ⟨b, 0, none⟩) N c) ∧ w'.ownsRow w.heap.size 3 1 (.slice (some ⟨b, 0, none⟩) N c) N ((vecOf N (movedV g L s)).map (Value.int .i64)) ∧ Below w.heap.size w w' := by
  have hg' := hg
  obtain ⟨ev, rfl, a, cap, rfl, hcap, hcm, hlen, hc⟩ := hg'
  have hn := hk.n
  have HK := hid hk
  obtain ⟨W1, hW1⟩ : ∃ W : World, W = (w.alloc (.cells #[.int .i64 g.n, .slice a g.es.length cap] 24)).alloc (.cells #[.slice (some ⟨bz, zo, none⟩) N cz] 27) := ⟨_, rfl⟩
  have hB1 : Below w.heap.size w W1 := by rw [hW1]; exact ((Below.refl _ _).alloc (Nat.le_refl _) _).alloc (by simp) _
  have g1 : W1.cell? ⟨w.heap.size, 1, none⟩ = some (.slice a g.es.length cap) := by rw [hW1]; simp
  have z0 : W1.cell? ⟨w.heap.size + 1, 0, none⟩ = some (.slice (some ⟨bz, zo, none⟩) N cz) := by rw [hW1]; simp
  have hs1 : W1.heap.size = w.heap.size + 2 := by rw [hW1]; simp
  have hcl := hid (c_Clone (vecOf N L) dv W1 (hd.below hB1) (by rw [vecOf_len]; omega))
  rw [vecOf_len] at hcl
  have HCE := hid (hc.below hB1)
  have HZ := hid (fun u hu => (hB1.cell (p := ⟨bz, zo + u, none⟩) hbz).trans (hz u hu))
  have HB1 := hid hB1
  have HLb := hid hL
  have HSb := hid hsb
  have hgl := hk.len
  have hEN := hid (fun k (h : k < g.es.length) => hk.ends k h)
  have hEM := hid (fun k (h : k < g.es.length) => hk.mem (x := g.es[k]?.getD default) (by rw [List.getElem?_eq_getElem h]; exact List.getElem_mem h))
  have hmf : ∀ (fn : Fn) (first cap : Array Value) (w : World), (Instr.makeFunc fn first cap).run Tryz.prog w = .ok (.func fn first cap) w := fun _ _ _ _ => rfl
  clear hd hc hz hB1 hL hg hk hsb
  go_enter Tryz.func36, Tryz.ntmps36
  go_wp2_with fail
  rw [← hW1]
  clear hW1
  refine hcl.out.mono ?_
  rintro e W2 ⟨bl, cl, rfl, hO, hB2⟩
  have hbl := owns_lt hO
  obtain ⟨W3, hW3⟩ : ∃ W : World, W = W2.alloc (.cells #[.slice (some ⟨bl, 0, none⟩) N cl] 26) := ⟨_, rfl⟩
  have hB3 : Below W1.heap.size W1 W3 := by rw [hW3]; exact hB2.alloc hB2.size _
  have HO3 : Hid (W3.ownsRow W1.heap.size 3 1 (.slice (some ⟨bl, 0, none⟩) N cl) N ((vecOf N (movS g N s L 0)).map (Value.int .i64))) := by
    rw [vecOf_congr N (movS g N s L 0) L (fun u _ => movS_zero g N s L u), hW3]
    exact hO.alloc _
  have o0 : W3.cell? ⟨W2.heap.size, 0, none⟩ = some (.slice (some ⟨bl, 0, none⟩) N cl) := by rw [hW3]; simp
  have hs2 := hB2.size
  have hs3 : W3.heap.size = W2.heap.size + 1 := by rw [hW3]; simp
  have HB3 := hid hB3
  have g3 := (hB3.cell (p := ⟨w.heap.size, 1, none⟩) (by dsimp only; omega)).trans g1
  have HG3 := hid ((hB3.cell (p := ⟨w.heap.size + 1, 0, none⟩) (by dsimp only; omega)).trans z0)
  have HZ3 := hid (fun u hu => (hB3.cell (p := ⟨bz, zo + u, none⟩) (by dsimp only; omega)).trans (HZ.out u hu))
  have HCE3 := hid (HCE.out.below hB3)
  have hbold : Hid (∀ b' off', a = some ⟨b', off', none⟩ → g.es ≠ [] → b' < W1.heap.size) := fun b' off' e hne => by
    rcases HCE.out with h | ⟨b2, o2, e2, h2, _⟩
    · exfalso; cases hg' : g.es with | nil => exact hne hg' | cons x l => rw [hg'] at h; simp [E.cells] at h
    · rw [e] at e2; injection e2 with e3; injection e3 with e4; omega
  clear hcl hO hB2 hB3 HZ HCE z0 g1
  go_simp
  go_upto_region 3 with fail
  rw [← hW3]
  have HO0 := hid o0
  clear hW3 o0
  go_wp2
  go_loopw [17] (fun i wr => ∃ k : Nat, k ≤ g.es.length ∧ i = .int .i64 k ∧ Hid (wr.ownsRow W1.heap.size 3 1 (.slice (some ⟨bl, 0, none⟩) N cl) N ((vecOf N (movS g N s L k)).map (Value.int .i64))) ∧ Hid (KeptB W3 wr (fun j => j = bl)) ∧ Hid (Below W1.heap.size W1 wr)) (fun i _ => g.es.length - (intOf i).toNat)
  case atStart => exact ⟨0, Nat.zero_le _, rfl, HO3, kept_refl _ _, HB3⟩
  case round =>
    clear HO3 HB3 g3
    obtain ⟨k, hk, rfl, HO, HK', HB⟩ := hrel
    obtain ⟨Wr, rfl⟩ : ∃ W : World, W = wr := ⟨_, rfl⟩
    have hsz := HK'.out.1
    by_cases hlt : k < g.es.length
    · obtain ⟨b', off', rfl, hb', hcc⟩ := HCE3.out.edge (by omega)
      obtain ⟨c1', c2', c3'⟩ := hcc k hlt
      have hbo := hbold.out b' off' rfl (by intro h; rw [h] at hlt; simp at hlt)
      have hbn : b' ≠ bl := by omega
      have c1 := (HK'.out.cell b' _ hb' hbn).trans c1'
      have c2 := (HK'.out.cell b' _ hb' hbn).trans c2'
      have c3 := (HK'.out.cell b' _ hb' hbn).trans c3'
      obtain ⟨m1, m2, m3, m4, m5⟩ := hEM.out k hlt
      have HST : Hid (∀ u, movS g N s L (k + 1) u = movS g N s L k u + sumTo (fun v => s v * fE v u (g.es[k]?.getD default)) N) := fun u => movS_step g N s L k u hlt
      have hmb := hid (fun u hu => movS_bd HK.out N s HSb.out L u (HLb.out u hu) hN2 k hk)
      have hlt' : (k : Int) < (g.es.length : Int) := by omega
      have hk0 : (0 : Int) ≤ (k : Int) := by omega
      clear hcc c1' c2' c3'
      generalize g.es[k]?.getD default = x at *
      obtain ⟨xa, xb, xm⟩ := x
      dsimp only at c1 c2 c3 m1 m2 m3 m4 m5
      obtain ⟨A, rfl⟩ := Int.eq_ofNat_of_zero_le m1
      obtain ⟨B, rfl⟩ := Int.eq_ofNat_of_zero_le (show 0 ≤ xb by omega)
      obtain ⟨m, rfl⟩ := Int.eq_ofNat_of_zero_le (show 0 ≤ xm by omega)
      have kA : Below Wr.heap.size Wr (Wr.alloc (.cells #[.int .i64 A, .int .i64 B, .int .i64 m] 96)) := (Below.refl _ _).alloc (Nat.le_refl _) _
      have KA := hid kA
      have hbl2 : bl < Wr.heap.size := (owns_lt HO.out).2
      have hal := hid (f_alongS N A B m (by omega) (by omega) (by omega) s HSb.out (movS g N s L k) (fun u hu => by have := hmb.out u hu; omega) W1.heap.size (w.heap.size + 1) W2.heap.size bl cl bz zo cz _
        ((kA.cell (p := ⟨w.heap.size + 1, 0, none⟩) (by dsimp only; omega)).trans ((HK'.out.cell (w.heap.size + 1) 0 (by omega) (by omega)).trans HG3.out))
        ((kA.cell (p := ⟨W2.heap.size, 0, none⟩) (by dsimp only; omega)).trans ((HK'.out.cell W2.heap.size 0 (by omega) (by omega)).trans HO0.out))
        (fun u hu => (kA.cell (p := ⟨bz, zo + u, none⟩) (by dsimp only; omega)).trans ((HK'.out.cell bz (zo + u) (by omega) (by omega)).trans (HZ3.out u hu)))
        (HO.out.alloc _) (by omega) (by omega) (by omega) (by simp; omega) (by simp; omega) (by simp; omega) (by simp; have := HB.out.size; omega))
      clear hmb kA
      go_wp2_with fail
      refine hal.out.mono ?_
      rintro e W5 ⟨rfl, hO5, hK5, hB5⟩
      have HO5 : Hid (W5.ownsRow W1.heap.size 3 1 (.slice (some ⟨bl, 0, none⟩) N cl) N ((vecOf N (movS g N s L (k + 1))).map (Value.int .i64))) := by
        rw [vecOf_congr N (movS g N s L (k + 1)) _ (fun u _ => (HST.out u).trans (by rw [sum_fE s A B m u N (by omega) (by omega)]))]
        exact hO5
      have HK5 := hid (kept_trans (kept_trans HK'.out (kept_below (p := fun _ => False) KA.out) (fun _ h => h.elim)) hK5 (fun _ h => h))
      have HB5 := hid ((HB.out.alloc HB.out.size (.cells #[.int .i64 A, .int .i64 B, .int .i64 m] 96)).trans hB5)
      clear hO5 hK5 hB5 hal HST c1 c2 c3
      go_simp
      go_wp2_with fail
      go_roundw
      case rel => exact ⟨k + 1, by omega, by go_num, HO5, HK5, HB5⟩
      case measure => simp [intOf]; omega
    · have e : k = g.es.length := by omega
      subst e
      have hlt' : ¬ (g.es.length : Int) < (g.es.length : Int) := by omega
      have o1 := (HK'.out.cell W2.heap.size 0 (by omega) (by omega)).trans HO0.out
      have HOE : Hid (Wr.ownsRow w.heap.size 3 1 (.slice (some ⟨bl, 0, none⟩) N cl) N ((vecOf N (movedV g L s)).map (Value.int .i64))) := by
        have h := HO.out
        rw [vecOf_congr N _ (movedV g L s) (fun u hu => movS_end HK.out N (by omega) s L u hu)] at h
        exact owns_base h (by omega)
      have HBE := hid (up HB1.out HB.out)
      clear HO HK' HB
      go_wp2
      go_ret
      exact ⟨bl, cl, rfl, HOE.out, HBE.out⟩


set_option maxHeartbeats 1000000 in
theorem f_CheckS (g : G) (gv : Value) (hk : Gok g) (ds : List Int) (dv : Value) (w : World) (hg : GrR w gv g) (hd : IntsR w dv ds) (he : dErr ds g.n = 0) :
    Calls Tryz.prog 34 #[gv, dv] w fun e w' => e = .returned (.int .i64 0) ∧ Below w.heap.size w w' := by
  have hg' := hg
  obtain ⟨ev, rfl, _⟩ := hg'
  have hd' := hd
  obtain ⟨da, dc, rfl, _⟩ := hd'
  have kA : Below w.heap.size w (w.alloc (.cells #[.int .i64 g.n, ev] 24)) := (Below.refl _ _).alloc (Nat.le_refl _) _
  have hC := hid (f_given g _ hk ds _ _ (hg.below kA) (hd.below kA) he)
  have HA := hid kA
  clear hg hd he hk kA
  go_enter Tryz.func34, Tryz.ntmps34
  go_wp2_with fail
  refine hC.out.mono ?_
  rintro e w2 ⟨rfl, hB2⟩
  dsimp only
  go_wp2_with fail
  go_ret
  exact ⟨rfl, up HA.out hB2⟩

set_option maxRecDepth 100000 in
set_option maxHeartbeats 2000000 in
/-- A script, applied, where the divisor behind it is in its bounds. -/
theorem f_Apply (g : G) (gv : Value) (hk : Gok g) (ds ss : List Int) (dv sv : Value) (w : World) (hg : GrR w gv g) (hd : IntsR w dv ds) (hs : IntsR w sv ss) (he : dErr ds g.n = 0) (hes : dErr ss g.n = 0) (hb : bddB g.n.toNat (movedV g (dOf ds) (dOf ss)) = true) :
    Calls Tryz.prog 12 #[gv, dv, sv] w fun e w' => ∃ b c, e = .returned (.tuple #[.slice (some ⟨b, 0, none⟩) g.n.toNat c, .int .i64 0]) ∧
      w'.ownsRow w.heap.size 3 1 (.slice (some ⟨b, 0, none⟩) g.n.toNat c) g.n.toNat ((vecOf g.n.toNat (movedV g (dOf ds) (dOf ss))).map (Value.int .i64)) ∧ Below w.heap.size w w' := by
  have hn := hk.n
  have hde := dErr_ok he
  have hse := dErr_ok hes
  have hg' := hg
  obtain ⟨ev, rfl, _⟩ := hg'
  have hd' := hd
  obtain ⟨da, dc, rfl, _⟩ := hd'
  have hs' := hs
  obtain ⟨sa, sc, rfl, _, _, _, hsc⟩ := hs'
  obtain ⟨bz, zo, rfl, hbz, hz⟩ := hsc.int (by omega)
  have kA : Below w.heap.size w (w.alloc (.cells #[.int .i64 g.n, ev] 24)) := (Below.refl _ _).alloc (Nat.le_refl _) _
  obtain ⟨W1, hW1⟩ : ∃ W : World, W = w.alloc (.cells #[.int .i64 g.n, ev] 24) := ⟨_, rfl⟩
  have HX := hid (Blk.new w #[.int .i64 g.n, ev] 24)
  rw [← hW1] at HX kA
  have HA := hid kA
  have HG := hid (hg.below kA)
  have HD := hid (hd.below kA)
  have HS := hid (hs.below kA)
  have HZ := hid (fun (W' : World) (h : Below W1.heap.size W1 W') u (hu : u < ss.length) => ((up kA h).cell (p := ⟨bz, zo + u, none⟩) hbz).trans (hz u hu))
  have HBZ := hid hbz
  have hGV := hid (f_given g _ hk ds _ W1 HG.out HD.out he)
  have hCK := hid (fun w' (h : Below W1.heap.size W1 w') => f_CheckS g _ hk ss _ w' (HG.out.below h) (HS.out.below h) hes)
  have hvd : vecOf g.n.toNat (dOf ds) = ds := by
    apply List.ext_getElem
    · rw [vecOf_len]; omega
    · intro i h1 h2
      simp [vecOf, dOf, h2]
  have hMV := hid (fun w' (h : Below W1.heap.size W1 w') => f_movedS g _ g.n.toNat (by omega) (by omega) hk (dOf ss) (fun u hu => by
      have := hse.2.2.2 _ (List.getElem_mem (show u < ss.length by omega))
      unfold dOf
      rw [List.getElem?_eq_getElem (by omega), Option.getD_some]
      exact this) (dOf ds) (fun u hu => by
      have := hde.2.2.2 _ (List.getElem_mem (show u < ds.length by omega))
      unfold dOf
      rw [List.getElem?_eq_getElem (by omega), Option.getD_some]
      omega) _ bz zo sc w' (HG.out.below h) (by rw [hvd]; exact HD.out.below h) (fun u hu => HZ.out w' h u (by omega)) (Nat.lt_of_lt_of_le hbz (up kA h).size))
  have HBD : Hid (∀ k, k < (vecOf g.n.toNat (movedV g (dOf ds) (dOf ss))).length → inB ((vecOf g.n.toNat (movedV g (dOf ds) (dOf ss)))[k]?.getD 0) = true) := fun k hk => by
    rw [List.getElem?_eq_getElem hk]
    exact List.all_eq_true.1 hb _ (List.getElem_mem hk)
  have hsl : ss.length = g.n.toNat := by omega
  have HN : Hid (g.n.toNat ≤ 12) := by show _ ≤ _; omega
  rw [hsl] at hCK ⊢
  generalize hgn : g.n.toNat = N at *
  generalize movedV g (dOf ds) (dOf ss) = M at *
  have c0 : W1.cell? ⟨w.heap.size, 0, none⟩ = some (.int .i64 g.n) := (HX.out.cell 0).trans rfl
  have c1 : W1.cell? ⟨w.heap.size, 1, none⟩ = some ev := (HX.out.cell 1).trans rfl
  have cl := HX.out.lt
  clear hg hd hs he hes hb hz hsc kA hde hse hvd hn hk hbz hsl hgn
  go_enter Tryz.func12, Tryz.ntmps12
  go_upto_region 1 with fail
  rw [← hW1]
  clear hW1
  go_wp2_with fail
  refine hGV.out.mono ?_
  rintro e w1 ⟨rfl, hB1⟩
  have HB1 := hid hB1
  clear hB1 c0 c1 cl hGV
  have HX1 := hid (HX.out.below HB1.out)
  have c0 : w1.cell? ⟨w.heap.size, 0, none⟩ = some (.int .i64 g.n) := (HX1.out.cell 0).trans rfl
  have c1 : w1.cell? ⟨w.heap.size, 1, none⟩ = some ev := (HX1.out.cell 1).trans rfl
  have cl := HX1.out.lt
  dsimp only
  go_wp2_with fail
  refine (hCK.out _ HB1.out).mono ?_
  rintro e w2 ⟨rfl, hB2⟩
  have HB2 := hid (up HB1.out hB2)
  clear hB2 c0 c1 cl hCK HX1 HB1
  have HX1 := hid (HX.out.below HB2.out)
  have c0 : w2.cell? ⟨w.heap.size, 0, none⟩ = some (.int .i64 g.n) := (HX1.out.cell 0).trans rfl
  have c1 : w2.cell? ⟨w.heap.size, 1, none⟩ = some ev := (HX1.out.cell 1).trans rfl
  have cl := HX1.out.lt
  dsimp only
  go_wp2_with fail
  refine (hMV.out _ HB2.out).mono ?_
  rintro e w3 ⟨b, c, rfl, hown, hB3⟩
  have HI3 := hid (owns_intsN hown (vecOf_len _ _) (by have := HN.out; omega))
  have HO3 := hid (owns_base hown (show w.heap.size ≤ w2.heap.size from (up HA.out HB2.out).size))
  have HB3 := hid (up HA.out (up HB2.out hB3))
  clear hown hB3 hMV HX1 c0 c1 cl
  dsimp only
  go_wp2_with fail
  refine (f_bounded _ _ w3 HI3.out HBD.out).mono ?_
  rintro e w4 ⟨rfl, rfl⟩
  dsimp only
  go_wp2_with fail
  go_ret2
  exact ⟨_, _, rfl, HO3.out, HB3.out⟩

set_option maxRecDepth 100000 in
set_option maxHeartbeats 1000000 in
theorem r18_Check (g : G) (gv : Value) (ss : List Int) (sv : Value) (w : World) (hg : GrR w gv g) (hs : IntsR w sv ss) :
    Calls Tryz.prog 6 #[gv, sv] w fun e w' => e = .returned (.int .i64 (if checkErr g ≠ 0 then checkErr g else dErr ss g.n)) ∧ Below w.heap.size w w' := by
  have hg' := hg
  obtain ⟨ev, rfl, _⟩ := hg'
  have hs' := hs
  obtain ⟨sa, sc, rfl, _⟩ := hs'
  obtain ⟨W1, hW1⟩ : ∃ W : World, W = w.alloc (.cells #[.int .i64 g.n, ev] 24) := ⟨_, rfl⟩
  have kA : Below w.heap.size w W1 := by rw [hW1]; exact (Below.refl _ _).alloc (Nat.le_refl _) _
  have HX := hid (Blk.new w #[.int .i64 g.n, ev] 24)
  rw [← hW1] at HX
  have HA := hid kA
  have HG := hid (hg.below kA)
  have HS := hid (hs.below kA)
  have c0 : W1.cell? ⟨w.heap.size, 0, none⟩ = some (.int .i64 g.n) := (HX.out.cell 0).trans rfl
  have c1 : W1.cell? ⟨w.heap.size, 1, none⟩ = some ev := (HX.out.cell 1).trans rfl
  have cl := HX.out.lt
  have HC := hid (r08_Check g _ W1 HG.out)
  have HD := hid (fun w' (h : Below W1.heap.size W1 w') => r17_Check ss _ g.n w' (HS.out.below h))
  generalize hz : (if checkErr g ≠ 0 then checkErr g else dErr ss g.n) = Z
  have HZ := hid hz
  clear hg hs kA hz
  go_enter Tryz.func6, Tryz.ntmps6
  go_upto_region 1 with fail
  rw [← hW1]
  clear hW1
  go_wp2_with fail
  refine HC.out.mono ?_
  rintro e w1 ⟨rfl, hB1⟩
  have HB1 := hid hB1
  clear hB1 c0 c1 cl HC
  have HX1 := hid (HX.out.below HB1.out)
  have c0 : w1.cell? ⟨w.heap.size, 0, none⟩ = some (.int .i64 g.n) := (HX1.out.cell 0).trans rfl
  have c1 : w1.cell? ⟨w.heap.size, 1, none⟩ = some ev := (HX1.out.cell 1).trans rfl
  have cl := HX1.out.lt
  dsimp only
  by_cases hc : checkErr g = 0
  · have HZ2 : Hid (dErr ss g.n = Z) := by have h := HZ.out; rw [if_neg (by simpa using hc)] at h; exact h
    rw [hc]
    clear hc HZ
    go_wp2_with fail
    refine (HD.out _ HB1.out).mono ?_
    rintro e w2 ⟨rfl, rfl⟩
    dsimp only
    go_wp2_with fail
    go_ret
    exact ⟨ret_int (by rw [HZ2.out]), up HA.out HB1.out⟩
  · have hcb : (checkErr g != 0) = true := by simpa using hc
    have HZ2 : Hid (checkErr g = Z) := by have h := HZ.out; rw [if_pos hc] at h; exact h
    clear hc HZ
    generalize checkErr g = z at *
    go_wp2_with fail
    go_ret
    exact ⟨ret_int (by rw [HZ2.out]), up HA.out HB1.out⟩

end Go.Proofs.YtbjoblkigbphhaaGreat
