/-
  Contracts of the program's firing: of, moved (for one vertex), fire, bounded, given, listed, Count, Play, may; of its graph: at, Valence.
-/
import Derived.Test.YtlhbgainpeehoaaP32
namespace Go.Proofs.Ytlhbgainpeehoaa
set_option linter.unusedVariables false
open Go.RowKit

set_option maxRecDepth 100000 in
set_option maxHeartbeats 2000000 in
theorem f_of (g : G) (gv : Value) (N : Nat) (hN1 : (N : Int) ≤ g.n) (hN2 : g.n ≤ (N : Int)) (v : Nat) (hv : v < N) (hN : N ≤ 12) (sv : Value) (w : World) (hg : GrR w gv g) (hs : IntsR w sv [(v : Int)]) :
    Calls Try.prog 97 #[gv, sv, .int .i64 1] w fun e w' => ∃ b, e = .returned (.slice (some ⟨b, 0, none⟩) N N) ∧ w'.ownsRow w.heap.size 3 1 (.slice (some ⟨b, 0, none⟩) N N) N ((vecOf N (oneAt v 1)).map (Value.int .i64)) ∧ Below w.heap.size w w' := by
  obtain ⟨ev, rfl, _⟩ := hg
  obtain ⟨a, cap, rfl, hcap, hcm, hlen, hc⟩ := hs
  obtain ⟨b', off', rfl, hb', hcs⟩ := hc.int (by simp)
  have c1 := hcs 0 (by simp)
  simp only [List.getElem?_cons_zero, Option.getD_some, Nat.add_zero] at c1
  have hmk := run_zer (P := Try.prog) 33 3 Try.underScript Try.infoInt g.n N hN1 hN2 (by omega)
  have hv0 : (0 : Int) ≤ (v : Int) := by omega
  have hv1 : (v : Int) < (N : Int) := by omega
  clear hcs hc
  go_enter Try.func97, Try.ntmps97
  go_upto_region 2 with fail
  obtain ⟨W1, hW1⟩ : ∃ W : World, W = (w.alloc (.cells #[.int .i64 g.n, ev] 24)).alloc (.cells (zer N) 3) := ⟨_, rfl⟩
  rw [← hW1]
  have hB1 : Below w.heap.size w W1 := by rw [hW1]; exact ((Below.refl _ _).alloc (Nat.le_refl _) _).alloc (by simp) _
  have hO : W1.ownsRow w.heap.size 3 1 (.slice (some ⟨w.heap.size + 1, 0, none⟩) N N) N ((vecOf N fun _ => 0).map (Value.int .i64)) := by rw [hW1]; exact ownZ (by simp) (by simp) (by omega)
  have c2 := (hB1.cell (p := ⟨b', off', none⟩) hb').trans c1
  have hl1 : w.heap.size + 1 < W1.heap.size := by rw [hW1]; simp
  have cv := owns_int hO v hv
  rw [vecOf_get _ _ _ hv] at cv
  have fv := hO.frozenAt v
  have HO2 : Hid ((W1.setCell ⟨w.heap.size + 1, v, none⟩ (.int .i64 1)).ownsRow w.heap.size 3 1 (.slice (some ⟨w.heap.size + 1, 0, none⟩) N N) N ((vecOf N (oneAt v 1)).map (Value.int .i64))) := by
    have h := owns_set (f := Value.int .i64) hO v (1 : Int)
    rw [vecOf_set] at h
    have e : vecOf N (fun i => if i = v then (1 : Int) else 0) = vecOf N (oneAt v 1) := vecOf_congr _ _ _ fun u _ => by
      unfold oneAt
      by_cases e : u = v
      · subst e; simp
      · rw [if_neg e, if_neg (by omega)]
    rw [e] at h
    exact h
  have HB2 : Hid (Below w.heap.size w (W1.setCell ⟨w.heap.size + 1, v, none⟩ (.int .i64 1))) := hB1.setCell (p := ⟨w.heap.size + 1, v, none⟩) (by simp) _
  have HO1 := hid hO
  have HB1 := hid hB1
  have hb1 : b' < W1.heap.size := by have := hB1.size; omega
  clear hW1 hO hB1 c1
  go_wp2
  go_loopw [15] (fun i wr => ∃ k : Nat, k ≤ 1 ∧ i = .int .i64 k ∧ Hid (k = 0 → wr = W1) ∧ Hid (k = 1 → wr = W1.setCell ⟨w.heap.size + 1, v, none⟩ (.int .i64 1))) (fun i _ => 1 - (intOf i).toNat)
  case atStart => exact ⟨0, by omega, rfl, fun _ => rfl, fun h => by omega⟩
  case round =>
    obtain ⟨k, hk, rfl, H0, H1⟩ := hrel
    by_cases e : k = 0
    · subst e
      have e2 := H0.out rfl
      subst e2
      go_wp2
      go_roundw
      case rel => exact ⟨1, by omega, by go_num, (fun h => by omega), fun _ => trivial⟩
      case measure => simp [intOf]
    · have e1 : k = 1 := by omega
      subst e1
      have e2 := H1.out rfl
      subst e2
      go_wp2
      go_ret
      exact ⟨_, rfl, HO2.out, HB2.out⟩

/-- What moves along one edge when v fires. -/
def fE (v u : Nat) (x : E) : Int := if u = v then -(valE v x) else rowE v u x
def movTo (g : G) (v : Nat) (L : Nat → Int) (k u : Nat) : Int := L u + sumE (fE v u) (g.es.take k)
theorem movTo_zero (g : G) (v : Nat) (L : Nat → Int) (u : Nat) : movTo g v L 0 u = L u := by unfold movTo; simp [sumE]
theorem movTo_step (g : G) (v : Nat) (L : Nat → Int) (k u : Nat) (h : k < g.es.length) : movTo g v L (k + 1) u = movTo g v L k u + fE v u (g.es[k]?.getD default) := by
  unfold movTo
  rw [take_step _ _ h, sumE_append]
  show _ = _ + sumE _ _ + _
  have : sumE (fE v u) [g.es[k]?.getD default] = fE v u (g.es[k]?.getD default) := by simp [sumE]
  rw [this]
  omega
theorem sumE_negv (f : E → Int) : ∀ l : List E, sumE (fun x => -(f x)) l = -(sumE f l)
  | [] => rfl
  | x :: l => by unfold sumE; rw [sumE_negv f l]; omega
theorem movTo_end {g : G} (h : Gok g) (v : Nat) (L : Nat → Int) (u : Nat) : movTo g v L g.es.length u = fireL g v L u := by
  unfold movTo fireL
  rw [List.take_length]
  by_cases e : u = v
  · subst e
    have h1 : sumE (fE u u) g.es = -(sumE (valE u) g.es) := by
      rw [← sumE_negv]
      exact sumE_congr _ _ _ fun x _ => by unfold fE; rw [if_pos rfl]
    have h2 := valTo_end h u
    unfold valTo at h2
    rw [List.take_length] at h2
    have h3 : rowsF g u u = 0 := by unfold rowsF; simp
    rw [h1, h2, if_pos rfl, h3]
    omega
  · have h1 : sumE (fE v u) g.es = sumE (rowE v u) g.es := sumE_congr _ _ _ fun x _ => by unfold fE; rw [if_neg e]
    have h2 := rowTo_end h v u
    unfold rowTo at h2
    rw [List.take_length] at h2
    rw [h1, h2, if_neg e]
theorem fE_bd {g : G} (h : Gok g) (v u : Nat) {x : E} (hx : x ∈ g.es) : -100 ≤ fE v u x ∧ fE v u x ≤ 100 := by
  have := h.mem hx
  unfold fE valE rowE
  repeat' split
  all_goals omega
theorem movTo_bd {g : G} (h : Gok g) (v : Nat) (L : Nat → Int) (u : Nat) (hL : -1000000000000 ≤ L u ∧ L u ≤ 1000000000000) : ∀ k, k ≤ g.es.length → -1000000000000 - 100 * k ≤ movTo g v L k u ∧ movTo g v L k u ≤ 1000000000000 + 100 * k
  | 0, _ => by rw [movTo_zero]; omega
  | k + 1, hk => by
    have ih := movTo_bd h v L u hL k (by omega)
    rw [movTo_step g v L k u (by omega)]
    have := fE_bd h v u (x := g.es[k]?.getD default) (by rw [List.getElem?_eq_getElem (by omega)]; exact List.getElem_mem _)
    omega

/-- One edge: what along does to the row. -/
theorem fE_edge (v A B : Nat) (m : Int) (X : Nat → Int) (u : Nat) :
    (if u = B then (if B = A then X A - m * (oneAt v 1 A - oneAt v 1 B) else X B) + m * (oneAt v 1 A - oneAt v 1 B) else if u = A then X A - m * (oneAt v 1 A - oneAt v 1 B) else X u) = X u + fE v u ⟨A, B, m⟩ := by
  unfold fE valE rowE oneAt
  by_cases hAB : A = B
  · subst hAB
    by_cases h1 : u = A
    · subst h1; simp
    · simp [h1]
  · have hAB' : ¬ (A : Int) = (B : Int) := by omega
    have hBA : ¬ B = A := fun h => hAB h.symm
    by_cases hvA : A = v
    · subst hvA
      have hB1 : ¬ (B : Int) = (A : Int) := by omega
      by_cases h1 : u = B
      · subst h1; simp [hBA, hAB', hB1]
      · by_cases h2 : u = A
        · subst h2; simp [h1, hAB', hB1]; omega
        · have h3 : ¬ (B : Int) = (u : Int) := by omega
          simp [h1, h2, h3, hAB']
    · have hvA' : ¬ (A : Int) = (v : Int) := by omega
      by_cases hvB : B = v
      · subst hvB
        by_cases h1 : u = B
        · subst h1; simp [hBA, hAB']
        · by_cases h2 : u = A
          · subst h2; simp [h1, hAB']
          · have h3 : ¬ (A : Int) = (u : Int) := by omega
            simp [h1, h2, h3, hAB']
      · have hvB' : ¬ (B : Int) = (v : Int) := by omega
        by_cases h1 : u = B
        · subst h1; simp [hBA, hAB', hvA', hvB']
        · by_cases h2 : u = A
          · subst h2; simp [h1, hAB', hvA', hvB']
          · simp [h1, h2, hAB', hvA', hvB']

set_option maxRecDepth 100000 in
set_option maxHeartbeats 2000000 in
theorem f_along (N A B m : Nat) (hA : A < N) (hB : B < N) (hm : m ≤ 50) (v : Nat) (X : Nat → Int) (hX : ∀ u, u < N → -2000000000000 ≤ X u ∧ X u ≤ 2000000000000) (base bs bo bl cl bz cz : Nat) (w : World)
    (c1 : w.cell? ⟨bs, 0, none⟩ = some (.slice (some ⟨bz, 0, none⟩) N cz)) (c2 : w.cell? ⟨bo, 0, none⟩ = some (.slice (some ⟨bl, 0, none⟩) N cl)) (hz : ∀ u, u < N → w.cell? ⟨bz, u, none⟩ = some (.int .i64 (oneAt v 1 u)))
    (ho : w.ownsRow base 3 1 (.slice (some ⟨bl, 0, none⟩) N cl) N ((vecOf N X).map (Value.int .i64))) (n1 : bs ≠ bl) (n2 : bo ≠ bl) (n3 : bz ≠ bl) (hbs : bs < w.heap.size) (hbo : bo < w.heap.size) (hbz : bz < w.heap.size) (hbase : base ≤ w.heap.size) :
    Calls Try.prog 118 #[.agg #[.int .i64 A, .int .i64 B, .int .i64 m], .pointer (some ⟨bs, 0, none⟩), .pointer (some ⟨bo, 0, none⟩)] w fun e w' => e = .returned (.tuple #[]) ∧
      w'.ownsRow base 3 1 (.slice (some ⟨bl, 0, none⟩) N cl) N ((vecOf N fun u => X u + fE v u ⟨A, B, m⟩).map (Value.int .i64)) ∧ KeptB w w' (fun k => k = bl) ∧ Below base w w' := by
  have hbl := owns_lt ho
  have z1 := hz A hA
  have z2 := hz B hB
  have hA0 : (0 : Int) ≤ (A : Int) := by omega
  have hA1 : (A : Int) < (N : Int) := by omega
  have hB0 : (0 : Int) ≤ (B : Int) := by omega
  have hB1 : (B : Int) < (N : Int) := by omega
  have ho1 : ∀ u : Nat, 0 ≤ oneAt v 1 u ∧ oneAt v 1 u ≤ 1 := fun u => by unfold oneAt; split <;> omega
  have oA := ho1 A
  have oB := ho1 B
  have HFE := hid (fun u => fE_edge v A B m X u)
  have HXb := hid hX
  have w1 : IntKind.i64.wrap (oneAt v 1 A - oneAt v 1 B) = oneAt v 1 A - oneAt v 1 B := IntWalk.i64_in _ (by omega)
  have hfl : -50 ≤ (m : Int) * (oneAt v 1 A - oneAt v 1 B) ∧ (m : Int) * (oneAt v 1 A - oneAt v 1 B) ≤ 50 := by
    rcases (show oneAt v 1 A - oneAt v 1 B = -1 ∨ oneAt v 1 A - oneAt v 1 B = 0 ∨ oneAt v 1 A - oneAt v 1 B = 1 by omega) with e | e | e
    · rw [e]; omega
    · rw [e]; omega
    · rw [e]; omega
  have w2 : IntKind.i64.wrap ((m : Int) * (oneAt v 1 A - oneAt v 1 B)) = (m : Int) * (oneAt v 1 A - oneAt v 1 B) := IntWalk.i64_in _ (by omega)
  have HW : Hid (Below w.heap.size w (w.alloc (.cells #[.int .i64 A, .int .i64 B, .int .i64 m] 128))) := (Below.refl _ _).alloc (Nat.le_refl _) _
  have HO := hid ho
  clear hX ho hz ho1 oA oB
  generalize hp : oneAt v 1 A = p at *
  generalize hq : oneAt v 1 B = r at *
  clear hp hq
  go_enter Try.func118, Try.ntmps118
  go_upto_region 1 with fail
  obtain ⟨W1, hW1⟩ : ∃ W : World, W = w.alloc (.cells #[.int .i64 A, .int .i64 B, .int .i64 m] 128) := ⟨_, rfl⟩
  rw [← hW1]
  have hE : Blk W1 w.heap.size #[.int .i64 A, .int .i64 B, .int .i64 m] 128 := by rw [hW1]; exact Blk.new _ _ _
  rw [← hW1] at HW
  clear hW1
  have e0 := hE.cell 0
  have e1 := hE.cell 1
  have e2 := hE.cell 2
  simp only [List.getElem?_toArray, List.getElem?_cons_zero, List.getElem?_cons_succ] at e0 e1 e2
  have d1 := (HW.out.cell (p := ⟨bs, 0, none⟩) hbs).trans c1
  have d2 := (HW.out.cell (p := ⟨bo, 0, none⟩) hbo).trans c2
  have y1 := (HW.out.cell (p := ⟨bz, A, none⟩) hbz).trans z1
  have y2 := (HW.out.cell (p := ⟨bz, B, none⟩) hbz).trans z2
  let S : World → Prop := fun w' => w'.cell? ⟨w.heap.size, 0, none⟩ = some (.int .i64 A) ∧ w'.cell? ⟨w.heap.size, 1, none⟩ = some (.int .i64 B) ∧ w'.cell? ⟨w.heap.size, 2, none⟩ = some (.int .i64 m) ∧ w'.cell? ⟨bs, 0, none⟩ = some (.slice (some ⟨bz, 0, none⟩) N cz) ∧
    w'.cell? ⟨bz, A, none⟩ = some (.int .i64 p) ∧ w'.cell? ⟨bz, B, none⟩ = some (.int .i64 r)
  (refine wp_region_text 14 [0,1,2,3,4,5,6,7,8,9,10,11,12,13] S (by kernel_rfl) (by kernel_rfl) (by intro _ _ d _ _ h; cases d <;> exact h) ?hS ?_; rotate_left; simp only [List.map_cons, List.map_nil, List.getD_cons_zero, List.getD_cons_succ, List.drop_succ_cons, List.drop_zero])
  case hS => exact ⟨e0, e1, e2, d1, y1, y2⟩
  (repeat (refine' wpSeq_take rfl _ (by rfl) ?_ ?_; rotate_left; focus (intro w' hS; (try dsimp only at hS); obtain ⟨s1, s2, s3, s4, s5, s6⟩ := hS; go_simp; (first | done | with_reducible rfl)); (try simp only [Act.put, List.setIfInBounds_toArray, List.set_cons_zero, List.set_cons_succ])))
  refine wpSeq_nil ?_
  clear S
  generalize (m : Int) * (p - r) = fl at *
  have HO1 := hid (owns_below HO.out HW.out)
  have cA := owns_int HO1.out A hA
  rw [vecOf_get _ _ _ hA] at cA
  have fA := HO1.out.frozenAt A
  have lA := (owns_lt HO1.out).2
  have hXA := HXb.out A hA
  have hXB := HXb.out B hB
  have w3 : IntKind.i64.wrap (X A - fl) = X A - fl := IntWalk.i64_in _ (by omega)
  clear d1 y1 y2 c1 z1 z2 w1 w2
  go_upto_region 3 with fail
  obtain ⟨W2, hW2⟩ : ∃ W : World, W = (W1.setCell ⟨bl, A, none⟩ (.int .i64 (X A - fl))).drew := ⟨_, rfl⟩
  rw [← hW2]
  have HO2 : Hid (W2.ownsRow base 3 1 (.slice (some ⟨bl, 0, none⟩) N cl) N ((vecOf N fun u => if u = A then X A - fl else X u).map (Value.int .i64))) := by
    have h := owns_set (f := Value.int .i64) HO1.out A (X A - fl)
    rw [vecOf_set] at h
    rw [hW2]
    exact h.drew
  have HK2 : Hid (KeptB w W2 (fun k => k = bl)) := by
    rw [hW2]
    exact kept_trans (kept_set (p := fun k => k = bl) (kept_below HW.out) (b := bl) rfl _ _) (kept_below (p := fun _ => False) (Below.drew (Below.refl _ _))) (fun _ h => h.elim)
  have HB2 : Hid (Below base w W2) := by
    rw [hW2]
    exact ((HW.out.mono hbase).setCell (p := ⟨bl, A, none⟩) hbl.1 _).drew
  have hE2 : Blk W2 w.heap.size #[.int .i64 A, .int .i64 B, .int .i64 m] 128 := by
    rw [hW2]
    exact (hE.other (by omega) _ _)
  have d2' : W2.cell? ⟨bo, 0, none⟩ = some (.slice (some ⟨bl, 0, none⟩) N cl) := (HK2.out.cell bo 0 hbo n2).trans c2
  clear hW2 hE e0 e1 e2 d2 cA fA lA w3 HO1 c2
  have e0 := hE2.cell 0
  have e1 := hE2.cell 1
  simp only [List.getElem?_toArray, List.getElem?_cons_zero, List.getElem?_cons_succ] at e0 e1
  have cB := owns_int HO2.out B hB
  rw [vecOf_get _ _ _ hB] at cB
  have fB := HO2.out.frozenAt B
  have lB := (owns_lt HO2.out).2
  have hyb : -3000000000000 ≤ (if B = A then X A - fl else X B) ∧ (if B = A then X A - fl else X B) ≤ 3000000000000 := by split <;> omega
  have HO3 : Hid ((W2.setCell ⟨bl, B, none⟩ (.int .i64 ((if B = A then X A - fl else X B) + fl))).ownsRow base 3 1 (.slice (some ⟨bl, 0, none⟩) N cl) N ((vecOf N fun u => X u + fE v u ⟨A, B, m⟩).map (Value.int .i64))) := by
    have h := owns_set (f := Value.int .i64) HO2.out B ((if B = A then X A - fl else X B) + fl)
    rw [vecOf_set] at h
    rw [vecOf_congr N _ (fun u => X u + fE v u ⟨A, B, m⟩) (fun u _ => HFE.out u)] at h
    exact h
  have HK3 := hid (kept_set (p := fun k => k = bl) HK2.out (b := bl) rfl B (.int .i64 ((if B = A then X A - fl else X B) + fl)))
  have HB3 := hid (HB2.out.setCell (p := ⟨bl, B, none⟩) hbl.1 (.int .i64 ((if B = A then X A - fl else X B) + fl)))
  generalize (if B = A then X A - fl else X B) = y at *
  have w4 : IntKind.i64.wrap (y + fl) = y + fl := IntWalk.i64_in _ (by omega)
  clear HFE HXb HO hE2 hXA hXB hyb
  go_wp2
  go_end0
  exact ⟨rfl, HO3.out, HK3.out, HB3.out⟩

end Go.Proofs.Ytlhbgainpeehoaa

namespace Go.Proofs.Ytlhbgainpeehoaa
set_option linter.unusedVariables false
open Go.RowKit

set_option maxRecDepth 100000 in
set_option maxHeartbeats 4000000 in
theorem f_moved (g : G) (gv : Value) (N : Nat) (hN1 : (N : Int) ≤ g.n) (hN2 : g.n ≤ (N : Int)) (hk : Gok g) (v : Nat) (hv : v < N) (L : Nat → Int) (hL : ∀ u, u < N → -1000000000000 ≤ L u ∧ L u ≤ 1000000000000) (dv : Value) (bz cz : Nat) (w : World)
    (hg : GrR w gv g) (hd : IntsR w dv (vecOf N L)) (hz : ∀ u, u < N → w.cell? ⟨bz, u, none⟩ = some (.int .i64 (oneAt v 1 u))) (hbz : bz < w.heap.size) :
    Calls Try.prog 96 #[gv, dv, .slice (some ⟨bz, 0, none⟩) N cz] w fun e w' => ∃ b c, e = .returned (.slice (some ⟨b, 0, none⟩) N c) ∧ w'.ownsRow w.heap.size 3 1 (.slice (some ⟨b, 0, none⟩) N c) N ((vecOf N (fireL g v L)).map (Value.int .i64)) ∧ Below w.heap.size w w' := by
  have hg' := hg
  obtain ⟨ev, rfl, a, cap, rfl, hcap, hcm, hlen, hc⟩ := hg'
  have hn := hk.n
  have HK := hid hk
  obtain ⟨W1, hW1⟩ : ∃ W : World, W = (w.alloc (.cells #[.int .i64 g.n, .slice a g.es.length cap] 24)).alloc (.cells #[.slice (some ⟨bz, 0, none⟩) N cz] 33) := ⟨_, rfl⟩
  have hB1 : Below w.heap.size w W1 := by rw [hW1]; exact ((Below.refl _ _).alloc (Nat.le_refl _) _).alloc (by simp) _
  have g1 : W1.cell? ⟨w.heap.size, 1, none⟩ = some (.slice a g.es.length cap) := by rw [hW1]; simp
  have z0 : W1.cell? ⟨w.heap.size + 1, 0, none⟩ = some (.slice (some ⟨bz, 0, none⟩) N cz) := by rw [hW1]; simp
  have hs1 : W1.heap.size = w.heap.size + 2 := by rw [hW1]; simp
  have hcl := hid (c_Clone (vecOf N L) dv W1 (hd.below hB1) (by rw [vecOf_len]; omega))
  rw [vecOf_len] at hcl
  have HCE := hid (hc.below hB1)
  have HZ := hid (fun u hu => (hB1.cell (p := ⟨bz, u, none⟩) hbz).trans (hz u hu))
  have HB1 := hid hB1
  have HLb := hid hL
  have hgl := hk.len
  have hEN := hid (fun k (h : k < g.es.length) => hk.ends k h)
  have hEM := hid (fun k (h : k < g.es.length) => hk.mem (x := g.es[k]?.getD default) (by rw [List.getElem?_eq_getElem h]; exact List.getElem_mem h))
  have hmf : ∀ (fn : Fn) (first cap : Array Value) (w : World), (Instr.makeFunc fn first cap).run Try.prog w = .ok (.func fn first cap) w := fun _ _ _ _ => rfl
  clear hd hc hz hB1 hL hg hk
  go_enter Try.func96, Try.ntmps96
  go_wp2_with fail
  rw [← hW1]
  clear hW1
  refine hcl.out.mono ?_
  rintro e W2 ⟨bl, cl, rfl, hO, hB2⟩
  have hbl := owns_lt hO
  obtain ⟨W3, hW3⟩ : ∃ W : World, W = W2.alloc (.cells #[.slice (some ⟨bl, 0, none⟩) N cl] 26) := ⟨_, rfl⟩
  have hB3 : Below W1.heap.size W1 W3 := by rw [hW3]; exact hB2.alloc hB2.size _
  have HO3 : Hid (W3.ownsRow W1.heap.size 3 1 (.slice (some ⟨bl, 0, none⟩) N cl) N ((vecOf N (movTo g v L 0)).map (Value.int .i64))) := by
    rw [vecOf_congr N (movTo g v L 0) L (fun u _ => movTo_zero g v L u), hW3]
    exact hO.alloc _
  have o0 : W3.cell? ⟨W2.heap.size, 0, none⟩ = some (.slice (some ⟨bl, 0, none⟩) N cl) := by rw [hW3]; simp
  have hs2 := hB2.size
  have hs3 : W3.heap.size = W2.heap.size + 1 := by rw [hW3]; simp
  have HB3 := hid hB3
  have g3 := (hB3.cell (p := ⟨w.heap.size, 1, none⟩) (by dsimp only; omega)).trans g1
  have HG3 := hid ((hB3.cell (p := ⟨w.heap.size + 1, 0, none⟩) (by dsimp only; omega)).trans z0)
  have HZ3 := hid (fun u hu => (hB3.cell (p := ⟨bz, u, none⟩) (by dsimp only; omega)).trans (HZ.out u hu))
  have HCE3 := hid (HCE.out.below hB3)
  have hbold : Hid (∀ b' off', a = some ⟨b', off', none⟩ → g.es ≠ [] → b' < W1.heap.size) := fun b' off' e hne => by
    rcases HCE.out with h | ⟨b2, o2, e2, h2, _⟩
    · exfalso; cases hg' : g.es with | nil => exact hne hg' | cons x l => rw [hg'] at h; simp [E.cells] at h
    · rw [e] at e2; injection e2 with e3; injection e3 with e4; omega
  clear hcl hO hB2 hB3 HZ HCE z0 g1
  go_simp
  go_upto_region 3 with fail
  rw [← hW3]
  have HO0 := hid o0
  clear hW3 o0
  go_wp2
  go_loopw [17] (fun i wr => ∃ k : Nat, k ≤ g.es.length ∧ i = .int .i64 k ∧ Hid (wr.ownsRow W1.heap.size 3 1 (.slice (some ⟨bl, 0, none⟩) N cl) N ((vecOf N (movTo g v L k)).map (Value.int .i64))) ∧ Hid (KeptB W3 wr (fun j => j = bl)) ∧ Hid (Below W1.heap.size W1 wr)) (fun i _ => g.es.length - (intOf i).toNat)
  case atStart => exact ⟨0, Nat.zero_le _, rfl, HO3, kept_refl _ _, HB3⟩
  case round =>
    clear HO3 HB3 g3
    obtain ⟨k, hk, rfl, HO, HK', HB⟩ := hrel
    obtain ⟨Wr, rfl⟩ : ∃ W : World, W = wr := ⟨_, rfl⟩
    have hsz := HK'.out.1
    by_cases hlt : k < g.es.length
    · obtain ⟨b', off', rfl, hb', hcc⟩ := HCE3.out.edge (by omega)
      obtain ⟨c1', c2', c3'⟩ := hcc k hlt
      have hbo := hbold.out b' off' rfl (by intro h; rw [h] at hlt; simp at hlt)
      have hbn : b' ≠ bl := by omega
      have c1 := (HK'.out.cell b' _ hb' hbn).trans c1'
      have c2 := (HK'.out.cell b' _ hb' hbn).trans c2'
      have c3 := (HK'.out.cell b' _ hb' hbn).trans c3'
      obtain ⟨m1, m2, m3, m4, m5⟩ := hEM.out k hlt
      have HST : Hid (∀ u, movTo g v L (k + 1) u = movTo g v L k u + fE v u (g.es[k]?.getD default)) := fun u => movTo_step g v L k u hlt
      have hmb := hid (fun u hu => movTo_bd HK.out v L u (HLb.out u hu) k hk)
      have hlt' : (k : Int) < (g.es.length : Int) := by omega
      have hk0 : (0 : Int) ≤ (k : Int) := by omega
      clear hcc c1' c2' c3'
      generalize g.es[k]?.getD default = x at *
      obtain ⟨xa, xb, xm⟩ := x
      dsimp only at c1 c2 c3 m1 m2 m3 m4 m5
      obtain ⟨A, rfl⟩ := Int.eq_ofNat_of_zero_le m1
      obtain ⟨B, rfl⟩ := Int.eq_ofNat_of_zero_le (show 0 ≤ xb by omega)
      obtain ⟨m, rfl⟩ := Int.eq_ofNat_of_zero_le (show 0 ≤ xm by omega)
      have kA : Below Wr.heap.size Wr (Wr.alloc (.cells #[.int .i64 A, .int .i64 B, .int .i64 m] 128)) := (Below.refl _ _).alloc (Nat.le_refl _) _
      have KA := hid kA
      have hbl2 : bl < Wr.heap.size := (owns_lt HO.out).2
      have hal := hid (f_along N A B m (by omega) (by omega) (by omega) v (movTo g v L k) (fun u hu => by have := hmb.out u hu; omega) W1.heap.size (w.heap.size + 1) W2.heap.size bl cl bz cz _
        ((kA.cell (p := ⟨w.heap.size + 1, 0, none⟩) (by dsimp only; omega)).trans ((HK'.out.cell (w.heap.size + 1) 0 (by omega) (by omega)).trans HG3.out))
        ((kA.cell (p := ⟨W2.heap.size, 0, none⟩) (by dsimp only; omega)).trans ((HK'.out.cell W2.heap.size 0 (by omega) (by omega)).trans HO0.out))
        (fun u hu => (kA.cell (p := ⟨bz, u, none⟩) (by dsimp only; omega)).trans ((HK'.out.cell bz u (by omega) (by omega)).trans (HZ3.out u hu)))
        (HO.out.alloc _) (by omega) (by omega) (by omega) (by simp; omega) (by simp; omega) (by simp; omega) (by simp; have := HB.out.size; omega))
      clear hmb kA
      go_wp2_with fail
      refine hal.out.mono ?_
      rintro e W5 ⟨rfl, hO5, hK5, hB5⟩
      have HO5 : Hid (W5.ownsRow W1.heap.size 3 1 (.slice (some ⟨bl, 0, none⟩) N cl) N ((vecOf N (movTo g v L (k + 1))).map (Value.int .i64))) := by
        rw [vecOf_congr N (movTo g v L (k + 1)) _ (fun u _ => HST.out u)]
        exact hO5
      have HK5 := hid (kept_trans (kept_trans HK'.out (kept_below (p := fun _ => False) KA.out) (fun _ h => h.elim)) hK5 (fun _ h => h))
      have HB5 := hid ((HB.out.alloc HB.out.size (.cells #[.int .i64 A, .int .i64 B, .int .i64 m] 128)).trans hB5)
      clear hO5 hK5 hB5 hal HST c1 c2 c3
      go_simp
      go_wp2_with fail
      go_roundw
      case rel => exact ⟨k + 1, by omega, by go_num, HO5, HK5, HB5⟩
      case measure => simp [intOf]; omega
    · have e : k = g.es.length := by omega
      subst e
      have hlt' : ¬ (g.es.length : Int) < (g.es.length : Int) := by omega
      have o1 := (HK'.out.cell W2.heap.size 0 (by omega) (by omega)).trans HO0.out
      have HOE : Hid (Wr.ownsRow w.heap.size 3 1 (.slice (some ⟨bl, 0, none⟩) N cl) N ((vecOf N (fireL g v L)).map (Value.int .i64))) := by
        have h := HO.out
        rw [vecOf_congr N _ (fireL g v L) (fun u _ => movTo_end HK.out v L u)] at h
        exact owns_base h (by omega)
      have HBE := hid (up HB1.out HB.out)
      clear HO HK' HB
      go_wp2
      go_ret
      exact ⟨bl, cl, rfl, HOE.out, HBE.out⟩

end Go.Proofs.Ytlhbgainpeehoaa

namespace Go.Proofs.Ytlhbgainpeehoaa
set_option linter.unusedVariables false
open Go.RowKit

/-- A game, in memory. -/
structure Gm (g : G) (ev : Value) (base : Nat) (W0 w : World) (b bl cl N : Nat) (L : Nat → Int) : Prop where
  blk : Blk w b #[.int .i64 g.n, ev, .slice (some ⟨bl, 0, none⟩) N cl] 122
  row : w.ownsRow base 3 1 (.slice (some ⟨bl, 0, none⟩) N cl) N ((vecOf N L).map (Value.int .i64))
  hb : base ≤ b
  hbase : base = W0.heap.size
  below : Below base W0 w
  gr : GrR W0 (.agg #[.int .i64 g.n, ev]) g
section
variable {g : G} {ev : Value} {base : Nat} {W0 w w' : World} {b bl cl N : Nat} {L : Nat → Int}
theorem Gm.mono (h : Gm g ev base W0 w b bl cl N L) (hB : Below w.heap.size w w') : Gm g ev base W0 w' b bl cl N L := by
  have e := h.hbase
  have := h.below.size
  exact ⟨h.blk.below hB, owns_below h.row hB, h.hb, h.hbase, h.below.trans (hB.mono (by omega)), h.gr⟩
theorem Gm.graph (h : Gm g ev base W0 w b bl cl N L) : GrR w (.agg #[.int .i64 g.n, ev]) g := by
  have e := h.hbase
  have hB := h.below
  rw [e] at hB
  exact h.gr.below hB
theorem Gm.cells (h : Gm g ev base W0 w b bl cl N L) : w.cell? ⟨b, 0, none⟩ = some (.int .i64 g.n) ∧ w.cell? ⟨b, 1, none⟩ = some ev ∧ w.cell? ⟨b, 2, none⟩ = some (.slice (some ⟨bl, 0, none⟩) N cl) := by
  refine ⟨?_, ?_, ?_⟩ <;> (rw [h.blk.cell]; simp)
theorem Gm.next (h : Gm g ev base W0 w b bl cl N L) (hB : Below w.heap.size w w') {bn cn : Nat} {L' : Nat → Int} (ho : w'.ownsRow w.heap.size 3 1 (.slice (some ⟨bn, 0, none⟩) N cn) N ((vecOf N L').map (Value.int .i64))) :
    Gm g ev base W0 (w'.setCell ⟨b, 2, none⟩ (.slice (some ⟨bn, 0, none⟩) N cn)) b bn cn N L' := by
  have h1 := h.mono hB
  have lb := h.blk.lt
  have ln := (owns_lt ho).1
  have e := h.hbase
  have := h.below.size
  exact ⟨h1.blk.set 2 _, owns_other (owns_base ho (by omega)) (by omega) _ _, h.hb, h.hbase, h1.below.setCell (by exact h.hb) _, h.gr⟩
end

set_option maxRecDepth 100000 in
set_option maxHeartbeats 4000000 in
theorem f_fire (g : G) (ev : Value) (base : Nat) (W0 w : World) (b bl cl N : Nat) (L : Nat → Int) (h : Gm g ev base W0 w b bl cl N L) (hN1 : (N : Int) ≤ g.n) (hN2 : g.n ≤ (N : Int)) (hk : Gok g) (v : Nat) (hv : v < N) (hL : ∀ u, u < N → -1000000000000 ≤ L u ∧ L u ≤ 1000000000000) :
    Calls Try.prog 71 #[.pointer (some ⟨b, 0, none⟩), .int .i64 v] w fun e w' => e = .returned (.tuple #[]) ∧ ∃ bl cl, Gm g ev base W0 w' b bl cl N (fireL g v L) := by
  obtain ⟨c0, c1, c2⟩ := h.cells
  have l0 := h.blk.lt
  have H := hid h
  have HK := hid hk
  have HL := hid hL
  have hn := hk.n
  have hev : ∃ ea en ec, ev = .slice ea en ec := by obtain ⟨ev', he, a, cap, rfl, _⟩ := h.gr; injection he with he; injection he with he; injection he with _ he; injection he with he; exact ⟨a, g.es.length, cap, he⟩
  obtain ⟨ea, en, ec, rfl⟩ := hev
  clear h hk hL
  go_enter Try.func71, Try.ntmps71
  let S : World → Prop := fun w' => w'.cell? ⟨b, 0, none⟩ = some (.int .i64 g.n) ∧ w'.cell? ⟨b, 1, none⟩ = some (.slice ea en ec) ∧ w'.cell? ⟨b, 2, none⟩ = some (.slice (some ⟨bl, 0, none⟩) N cl)
  (refine wp_region_text 19 [0,1,2,3,4,5,6,7,8,9,10,11,12,13,14,15,16,17,18] S (by kernel_rfl) (by kernel_rfl) (by intro _ _ d _ _ h; cases d <;> exact h) ?hS ?_; rotate_left; simp only [List.map_cons, List.map_nil, List.getD_cons_zero, List.getD_cons_succ, List.drop_succ_cons, List.drop_zero])
  case hS => exact ⟨c0, c1, c2⟩
  (repeat (refine' wpSeq_take rfl _ (by rfl) ?_ ?_; rotate_left; focus (intro w' hS; (try dsimp only at hS); obtain ⟨s1, s2, s3⟩ := hS; go_simp; (first | done | with_reducible rfl)); (try simp only [Act.put, List.setIfInBounds_toArray, List.set_cons_zero, List.set_cons_succ])))
  have k1 : Below w.heap.size w (w.drew.alloc (.cells #[.int .i64 v] 3)) := (Below.refl _ w).drew.alloc (Nat.le_refl _) _
  have hSk : ∀ w', Below w.heap.size w w' → S w' := fun w' hB => ⟨(hB.cell (p := ⟨b, 0, none⟩) l0).trans c0, (hB.cell (p := ⟨b, 1, none⟩) l0).trans c1, (hB.cell (p := ⟨b, 2, none⟩) l0).trans c2⟩
  have HSk := hid hSk
  have H1 := hid (H.out.mono k1)
  have hv1 : IntsR (w.drew.alloc (.cells #[.int .i64 v] 3)) (.slice (some ⟨w.heap.size, 0, none⟩) 1 1) [(v : Int)] :=
    ⟨some ⟨w.heap.size, 0, none⟩, 1, rfl, by simp, by omega, by simp, .inr ⟨w.heap.size, 0, rfl, by simp, fun k hk => by
      have e : k = 0 := by simp at hk; omega
      subst e
      exact cell_one_new w.drew (.int .i64 v) 3 0 _ rfl⟩⟩
  have HV1 := hid hv1
  have HK1 := hid k1
  clear hSk hv1
  refine wpSeq_call rfl (by rfl) (fun K hK => ?_)
  go_simp
  refine hK _ _ (HSk.out _ k1) ?_
  clear hK K k1
  refine wpSeq_call rfl (by rfl) (fun K hK => ?_)
  go_simp
  refine (f_of g _ N hN1 hN2 v hv (by omega) _ _ H1.out.graph HV1.out).mono ?_
  rintro e w2 ⟨bz, rfl, hO2, hB2⟩
  have HK2 := hid (up HK1.out hB2)
  refine hK _ _ (HSk.out _ HK2.out) ?_
  clear hK K
  have H2 := hid (H.out.mono HK2.out)
  have HM := hid (f_moved g _ N hN1 hN2 HK.out v hv L HL.out _ bz N w2 H2.out.graph (owns_intsN H2.out.row (vecOf_len _ _) (by omega)) (fun u hu => by rw [owns_int hO2 u hu, vecOf_get _ _ _ hu]) (owns_lt hO2).2)
  clear hO2 hB2
  refine wpSeq_call rfl (by rfl) (fun K hK => ?_)
  go_simp
  refine HM.out.mono ?_
  rintro e w3 ⟨bn, cn, rfl, hO3, hB3⟩
  refine hK _ _ (HSk.out _ (up HK2.out hB3)) ?_
  clear hK K HM
  have HN := hid (H2.out.next hB3 hO3)
  have q2 := (H2.out.mono hB3).cells.2.2
  have qf := (H2.out.mono hB3).blk.frozen 2
  have ql := (H2.out.mono hB3).blk.lt
  clear hO3 hB3
  (repeat (refine' wpSeq_take rfl _ (by rfl) ?_ ?_; rotate_left; focus (intro w' hS; (try dsimp only at hS); obtain ⟨s1, s2, s3⟩ := hS; go_simp; (first | done | with_reducible rfl)); (try simp only [Act.put, List.setIfInBounds_toArray, List.set_cons_zero, List.set_cons_succ])))
  refine wpSeq_nil ?_
  clear S HSk c0 c1 c2
  go_wp2
  go_end0
  exact ⟨rfl, bn, cn, HN.out⟩

end Go.Proofs.Ytlhbgainpeehoaa

namespace Go.Proofs.Ytlhbgainpeehoaa
set_option linter.unusedVariables false
open Go.RowKit

set_option maxRecDepth 100000 in
set_option maxHeartbeats 2000000 in
theorem f_at (g : G) (gv : Value) (hk : Gok g) (vs : List Int) (sv : Value) (w : World) (hg : GrR w gv g) (hs : IntsR w sv vs) (hv : ∀ k, k < vs.length → vtx g.n (vs[k]?.getD 0) = true) :
    Calls Try.prog 117 #[gv, sv] w fun e w' => e = .returned (.int .i64 0) ∧ Below w.heap.size w w' := by
  have hg' := hg
  obtain ⟨ev, rfl, _⟩ := hg'
  have kA : Below w.heap.size w (w.alloc (.cells #[.int .i64 g.n, ev] 24)) := (Below.refl _ _).alloc (Nat.le_refl _) _
  have hC := hid (p_Check g _ _ (hg.below kA))
  have HK := hid kA
  have HV := hid hv
  have he : checkErr g = 0 := hk
  rw [he] at hC
  have hgn := hid (show (w.alloc (.cells #[.int .i64 g.n, ev] 24)).cell? ⟨w.heap.size, 0, none⟩ = some (.int .i64 g.n) by simp)
  have hsz := hid (show w.heap.size < (w.alloc (.cells #[.int .i64 g.n, ev] 24)).heap.size by simp)
  have HS := hid (hs.below kA)
  obtain ⟨a, cap, rfl, _⟩ := hs
  clear kA hg hk he hv
  go_enter Try.func117, Try.ntmps117
  go_wp2_with fail
  obtain ⟨W1, hW1⟩ : ∃ W : World, W = w.alloc (.cells #[.int .i64 g.n, ev] 24) := ⟨_, rfl⟩
  rw [← hW1]
  rw [← hW1] at hC HK hgn hsz HS
  refine hC.out.mono ?_
  rintro e w2 ⟨rfl, hB2⟩
  have cg := (hB2.cell (p := ⟨w.heap.size, 0, none⟩) hsz.out).trans hgn.out
  have HB2 := hid (up HK.out hB2)
  obtain ⟨a', cap', hcv, hcap, hcm, hlen, hc⟩ := HS.out.below hB2
  injection hcv with e1 e2 e3
  subst e1 e3
  clear hC HK hgn hsz HS hB2 hW1 e2
  go_simp
  go_upto_region 4 with fail
  go_wp2
  go_loop [15] (fun i => ∃ k : Nat, k ≤ vs.length ∧ i = .int .i64 k) (fun i => vs.length - (intOf i).toNat)
  case atStart => exact ⟨0, Nat.zero_le _, rfl⟩
  case round =>
    obtain ⟨k, hkn, rfl⟩ := hrel
    by_cases hlt : k < vs.length
    · have hlt' : (k : Int) < (vs.length : Int) := by omega
      have hk0 : (0 : Int) ≤ (k : Int) := by omega
      obtain ⟨b, off, rfl, hb, hcc⟩ := hc.int (by omega)
      have c1 := hcc k hlt
      have hR := hid (p_vertex g.n (vs[k]?.getD 0) w2)
      rw [HV.out k hlt] at hR
      clear hcc hc
      generalize vs[k]?.getD 0 = x at *
      go_wp2_with (go_at_call 86; refine hR.out.mono ?_; rintro e w1 ⟨rfl, rfl⟩)
      go_round
      case rel => exact ⟨k + 1, by omega, by go_num⟩
      case measure => simp [intOf]; omega
    · have hlt' : ¬ (k : Int) < (vs.length : Int) := by omega
      go_wp2
      go_ret
      exact ⟨rfl, HB2.out⟩

set_option maxRecDepth 100000 in
set_option maxHeartbeats 4000000 in
theorem f_Valence (g : G) (gv : Value) (hk : Gok g) (v : Nat) (hv : (v : Int) < g.n) (w : World) (hg : GrR w gv g) :
    Calls Try.prog 95 #[gv, .int .i64 v] w fun e w' => e = .returned (.tuple #[.int .i64 (valence g v), .int .i64 0]) ∧ Below w.heap.size w w' := by
  have hg' := hg
  obtain ⟨ev, rfl, ae, ce, rfl, hcap, hcm, hlen, hc⟩ := hg'
  have hn := hk.n
  obtain ⟨W1, hW1⟩ : ∃ W : World, W = (w.alloc (.cells #[.int .i64 g.n, .slice ae g.es.length ce] 24)).alloc (.cells #[.int .i64 v] 3) := ⟨_, rfl⟩
  have hB1 : Below w.heap.size w W1 := by rw [hW1]; exact ((Below.refl _ _).alloc (Nat.le_refl _) _).alloc (by simp) _
  have hs1 : W1.heap.size = w.heap.size + 2 := by rw [hW1]; simp
  have g1 : W1.cell? ⟨w.heap.size, 1, none⟩ = some (.slice ae g.es.length ce) := by rw [hW1]; simp
  have hv1 : IntsR W1 (.slice (some ⟨w.heap.size + 1, 0, none⟩) 1 1) [(v : Int)] :=
    ⟨some ⟨w.heap.size + 1, 0, none⟩, 1, rfl, by simp, by omega, by simp, .inr ⟨w.heap.size + 1, 0, rfl, by simp [hs1], fun k hk => by
      have e : k = 0 := by simp at hk; omega
      subst e
      rw [hW1]
      have h := cell_one_new (w.alloc (.cells #[.int .i64 g.n, .slice ae g.es.length ce] 24)) (.int .i64 v) 3 0 _ rfl
      rw [show (w.alloc (.cells #[.int .i64 g.n, .slice ae g.es.length ce] 24)).heap.size = w.heap.size + 1 by simp] at h
      exact h⟩⟩
  have hA := hid (f_at g _ hk [(v : Int)] _ _ (hg.below hB1) hv1 (fun k hk => by
    have e : k = 0 := by simp at hk; omega
    subst e
    simp [vtx]
    omega))
  have HK := hid hk
  have HB1 := hid hB1
  have HCE := hid (hc.below hB1)
  have hE0 := valTo_zero g v
  have hE1 := hid (valTo_end hk v)
  have hgl := hk.len
  have hEM := hid (fun k (h : k < g.es.length) => hk.mem (x := g.es[k]?.getD default) (by rw [List.getElem?_eq_getElem h]; exact List.getElem_mem h))
  clear hc hB1 hg hk hv1
  generalize valence g v = z at *
  go_enter Try.func95, Try.ntmps95
  go_wp2_with fail
  rw [← hW1]
  clear hW1
  refine hA.out.mono ?_
  rintro e W2 ⟨rfl, hB2⟩
  have g2 := (hB2.cell (p := ⟨w.heap.size, 1, none⟩) (by dsimp only; omega)).trans g1
  have HB2 := hid (up HB1.out hB2)
  have HC2 := hid (HCE.out.below hB2)
  have hs2 := hB2.size
  clear hA hB2 HB1 HCE g1
  go_simp
  go_upto_region 6 with fail
  go_loopw [7, 20] (fun a i wr => ∃ k : Nat, k ≤ g.es.length ∧ i = .int .i64 k ∧ a = .int .i64 (valTo g k v) ∧ Hid (Below W2.heap.size W2 wr)) (fun _ i _ => g.es.length - (intOf i).toNat)
  case atStart => exact ⟨0, Nat.zero_le _, rfl, by rw [hE0], Below.refl _ _⟩
  case round =>
    obtain ⟨k, hk, rfl, rfl, HB⟩ := hrel
    by_cases hlt : k < g.es.length
    · obtain ⟨b', off', rfl, hb', hcc⟩ := HC2.out.edge (by omega)
      obtain ⟨c1', c2', c3'⟩ := hcc k hlt
      have c1 := (HB.out.cell (p := ⟨b', off' + k * 3, none⟩) hb').trans c1'
      have c2 := (HB.out.cell (p := ⟨b', off' + k * 3 + 1, none⟩) hb').trans c2'
      have c3 := (HB.out.cell (p := ⟨b', off' + k * 3 + 2, none⟩) hb').trans c3'
      obtain ⟨m1, m2, m3, m4, m5⟩ := hEM.out k hlt
      have HST := hid (valTo_step g k v hlt)
      have hbd := valTo_bd HK.out k v
      have hlt' : (k : Int) < (g.es.length : Int) := by omega
      have hk0 : (0 : Int) ≤ (k : Int) := by omega
      have hbs : b' < wr.heap.size := by have := HB.out.size; omega
      clear hcc c1' c2' c3'
      generalize hy : valTo g k v = y at *
      generalize hy1 : valTo g (k + 1) v = y1 at *
      generalize g.es[k]?.getD default = x at *
      obtain ⟨xa, xb, xm⟩ := x
      dsimp only at c1 c2 c3 m1 m2 m3 m4 m5
      have hye : Hid (y1 = y + valE v ⟨xa, xb, xm⟩) := HST
      have ww : IntKind.i64.wrap (y + xm) = y + xm := IntWalk.i64_in _ (by omega)
      clear HST hE1 hE0 hEM HC2
      by_cases hab : xa = xb
      · have q1 : y1 = y := by have := hye.out; simp only [valE, hab, if_true, Int.add_zero] at this; exact this
        have n1 : (xa != xb) = false := by simp [hab]
        have HAB := hid hab
        clear hab
        go_wp2
        go_roundw
        case rel => exact ⟨k + 1, by omega, by go_num, by rw [hy1, q1], HB.out.alloc HB.out.size _⟩
        case measure => simp [intOf]; omega
      · have n1 : (xa != xb) = true := by simp [hab]
        have HAB := hid hab
        by_cases ha : xa = (v : Int)
        · have q1 : y1 = y + xm := by have := hye.out; simp only [valE, ha, if_true] at this; rw [if_neg (by omega), if_neg (by omega)] at this; omega
          have n2 : (xa == (v : Int)) = true := by simp [ha]
          have HA := hid ha
          clear ha hab
          go_wp2
          go_roundw
          case rel => exact ⟨k + 1, by omega, by go_num, by rw [hy1, q1], HB.out.alloc HB.out.size _⟩
          case measure => simp [intOf]; omega
        · have n2 : (xa == (v : Int)) = false := by simp [ha]
          by_cases hb : xb = (v : Int)
          · have q1 : y1 = y + xm := by have := hye.out; simp only [valE, ha, hb, if_true, if_false] at this; omega
            have n3 : (xb == (v : Int)) = true := by simp [hb]
            have HA := hid hb
            clear ha hab hb
            go_wp2
            go_roundw
            case rel => exact ⟨k + 1, by omega, by go_num, by rw [hy1, q1], HB.out.alloc HB.out.size _⟩
            case measure => simp [intOf]; omega
          · have q1 : y1 = y := by have := hye.out; simp only [valE, hab, ha, hb, if_false] at this; omega
            have n3 : (xb == (v : Int)) = false := by simp [hb]
            clear ha hab hb
            go_wp2
            go_roundw
            case rel => exact ⟨k + 1, by omega, by go_num, by rw [hy1, q1], HB.out.alloc HB.out.size _⟩
            case measure => simp [intOf]; omega
    · have e : k = g.es.length := by omega
      subst e
      have hlt' : ¬ (g.es.length : Int) < (g.es.length : Int) := by omega
      have HBE := hid (up HB2.out HB.out)
      rw [hE1.out]
      go_wp2
      go_ret2
      exact ⟨rfl, HBE.out⟩

set_option maxRecDepth 100000 in
set_option maxHeartbeats 4000000 in
theorem f_may (g : G) (ev : Value) (base : Nat) (W0 w : World) (b bl cl N : Nat) (L : Nat → Int) (h : Gm g ev base W0 w b bl cl N L) (hN : (N : Int) ≤ g.n) (hk : Gok g) (v : Nat) (hv : v < N) (hp : 0 < valence g v) (hL : valence g v ≤ L v) :
    Calls Try.prog 70 #[.pointer (some ⟨b, 0, none⟩), .int .i64 v] w fun e w' => e = .returned (.bool true) ∧ Below w.heap.size w w' := by
  obtain ⟨c0, c1, c2⟩ := h.cells
  have l0 := h.blk.lt
  have H := hid h
  have hV := hid (f_Valence g _ hk v (by omega) w h.graph)
  obtain ⟨gev, he0, ae, ce, hE, hcap, hcm, hlen, hc⟩ := h.gr
  have he1 : ev = gev := by injection he0 with he0; injection he0 with he0; injection he0 with _ he0; injection he0
  subst he1
  subst hE
  have HL := hid hL
  clear hc he0 h hL
  have hv0 : (0 : Int) ≤ (v : Int) := by omega
  have hvN : (v : Int) < (N : Int) := by omega
  generalize valence g v = z at *
  have hL := HL.out
  generalize hx : L v = x at *
  have HX := hid hx
  clear hx
  go_enter Try.func70, Try.ntmps70
  go_wp2_with fail
  refine hV.out.mono ?_
  rintro e w2 ⟨rfl, hB2⟩
  have HB2 := hid hB2
  have cr := owns_int (owns_below H.out.row hB2) v hv
  rw [vecOf_get _ _ _ hv, HX.out] at cr
  have c2' := (hB2.cell (p := ⟨b, 2, none⟩) l0).trans c2
  have c1' := (hB2.cell (p := ⟨b, 1, none⟩) l0).trans c1
  have c0' := (hB2.cell (p := ⟨b, 0, none⟩) l0).trans c0
  have lbl : bl < w2.heap.size := by have := (owns_lt H.out.row).2; have := hB2.size; omega
  have lb : b < w2.heap.size := by have := hB2.size; omega
  clear hV hB2 c0 c1 c2
  go_simp
  go_wp2
  go_ret
  exact ⟨rfl, HB2.out⟩

end Go.Proofs.Ytlhbgainpeehoaa

namespace Go.Proofs.Ytlhbgainpeehoaa
set_option linter.unusedVariables false
open Go.RowKit

theorem f_bounded1 (k : Int) (hk : inB k = true) (w : World) : Calls Try.prog 98 #[.int .i64 k] w fun e w' => e = .returned (.bool false) ∧ w = w' := by
  unfold inB at hk
  simp only [Bool.and_eq_true, decide_eq_true_eq] at hk
  have h1 : ¬ k < -1048576 := by omega
  have h2 : ¬ 1048576 < k := by omega
  clear hk
  go_enter Try.func98, Try.ntmps98
  go_wp2
  go_ret
  exact ⟨rfl, rfl⟩

set_option maxRecDepth 100000 in
set_option maxHeartbeats 1000000 in
theorem f_boundedI (ds : List Int) (dv : Value) (w : World) (hd : IntsR w dv ds) (hb : ∀ k, k < ds.length → inB (ds[k]?.getD 0) = true) :
    Calls Try.prog 77 #[dv, .func (.func 98) #[] #[]] w fun e w' => e = .returned (.int .i64 (-1)) ∧ w = w' := by
  obtain ⟨a, cap, rfl, hcap, hcm, hlen, hc⟩ := hd
  have HB := hid hb
  clear hb
  go_enter Try.func77, Try.ntmps77
  go_wp2
  go_loop [8] (fun i => ∃ k : Nat, k ≤ ds.length ∧ i = .int .i64 k) (fun i => ds.length - (intOf i).toNat)
  case atStart => exact ⟨0, Nat.zero_le _, rfl⟩
  case round =>
    obtain ⟨k, hkn, rfl⟩ := hrel
    by_cases hlt : k < ds.length
    · have hlt' : (k : Int) < (ds.length : Int) := by omega
      have hk0 : (0 : Int) ≤ (k : Int) := by omega
      obtain ⟨b, off, rfl, hb, hcc⟩ := hc.int (by omega)
      have c1 := hcc k hlt
      have hR := hid (f_bounded1 (ds[k]?.getD 0) (HB.out k hlt) w)
      clear hcc hc
      generalize ds[k]?.getD 0 = x at *
      go_wp2_with (go_at_call 98; refine hR.out.mono ?_; rintro e w1 ⟨rfl, rfl⟩)
      go_round
      case rel => exact ⟨k + 1, by omega, by go_num⟩
      case measure => simp [intOf]; omega
    · have hlt' : ¬ (k : Int) < (ds.length : Int) := by omega
      go_wp2
      go_ret
      exact ⟨rfl, rfl⟩

theorem f_boundedC (ds : List Int) (dv : Value) (w : World) (hd : IntsR w dv ds) (hb : ∀ k, k < ds.length → inB (ds[k]?.getD 0) = true) :
    Calls Try.prog 45 #[dv, .func (.func 98) #[] #[]] w fun e w' => e = .returned (.bool false) ∧ w = w' := by
  have hI := hid (f_boundedI ds dv w hd hb)
  clear hd hb
  go_enter Try.func45, Try.ntmps45
  go_wp2_with (go_at_call 77; refine hI.out.mono ?_; rintro e w1 ⟨rfl, rfl⟩)
  go_ret
  exact ⟨rfl, rfl⟩

theorem f_bounded (ds : List Int) (dv : Value) (w : World) (hd : IntsR w dv ds) (hb : ∀ k, k < ds.length → inB (ds[k]?.getD 0) = true) :
    Calls Try.prog 72 #[dv] w fun e w' => e = .returned (.tuple #[dv, .int .i64 0]) ∧ w = w' := by
  have hC := hid (f_boundedC ds dv w hd hb)
  clear hd hb
  have hmf : ∀ (fn : Fn) (first cap : Array Value) (w : World), (Instr.makeFunc fn first cap).run Try.prog w = .ok (.func fn first cap) w := fun _ _ _ _ => rfl
  go_enter Try.func72, Try.ntmps72
  go_wp2_with (go_at_call 45; refine hC.out.mono ?_; rintro e w1 ⟨rfl, rfl⟩)
  go_ret2
  exact ⟨rfl, rfl⟩

set_option maxRecDepth 100000 in
set_option maxHeartbeats 2000000 in
theorem f_given (g : G) (gv : Value) (hk : Gok g) (ds : List Int) (dv : Value) (w : World) (hg : GrR w gv g) (hd : IntsR w dv ds) (he : dErr ds g.n = 0) :
    Calls Try.prog 69 #[gv, dv] w fun e w' => e = .returned (.int .i64 0) ∧ Below w.heap.size w w' := by
  have hg' := hg
  obtain ⟨ev, rfl, _⟩ := hg'
  obtain ⟨W1, hW1⟩ : ∃ W : World, W = w.alloc (.cells #[.int .i64 g.n, ev] 24) := ⟨_, rfl⟩
  have kA : Below w.heap.size w W1 := by rw [hW1]; exact (Below.refl _ _).alloc (Nat.le_refl _) _
  have hC := hid (p_Check g _ _ (hg.below kA))
  have HK := hid kA
  have he1 : checkErr g = 0 := hk
  rw [he1] at hC
  have hgn : W1.cell? ⟨w.heap.size, 0, none⟩ = some (.int .i64 g.n) := by rw [hW1]; simp
  have hsz : w.heap.size < W1.heap.size := by rw [hW1]; simp
  have hD := hid (fun w2 (hB : Below W1.heap.size W1 w2) => p_chips ds dv g.n w2 ((hd.below kA).below hB))
  rw [he] at hD
  clear kA hg hk he hd he1
  go_enter Try.func69, Try.ntmps69
  go_wp2_with fail
  rw [← hW1]
  clear hW1
  refine hC.out.mono ?_
  rintro e w2 ⟨rfl, hB2⟩
  have cg := (hB2.cell (p := ⟨w.heap.size, 0, none⟩) hsz).trans hgn
  have HB2 := hid (up HK.out hB2)
  have hD2 := hid (hD.out w2 hB2)
  clear hC HK hgn hsz hB2 hD
  go_simp
  go_wp2_with fail
  refine hD2.out.mono ?_
  rintro e w3 ⟨rfl, rfl⟩
  go_simp
  go_wp2_with fail
  go_ret
  exact ⟨rfl, HB2.out⟩

theorem f_listed1 (g : G) (b : Nat) (k : Int) (w : World) (hb : w.cell? ⟨b, 0, none⟩ = some (.int .i64 g.n)) (hk : vtx g.n k = true) : Calls Try.prog 93 #[.int .i64 k, .pointer (some ⟨b, 0, none⟩)] w fun e w' => e = .returned (.bool false) ∧ w = w' := by
  unfold vtx at hk
  simp only [Bool.and_eq_true, decide_eq_true_eq] at hk
  obtain ⟨hk0, hk1⟩ := hk
  have h1 : ¬ k < 0 := by omega
  have h2 : ¬ g.n ≤ k := by omega
  go_enter Try.func93, Try.ntmps93
  go_wp2
  go_ret
  exact ⟨rfl, rfl⟩

set_option maxRecDepth 100000 in
set_option maxHeartbeats 1000000 in
theorem f_listedI (g : G) (bg : Nat) (ds : List Int) (dv : Value) (w : World) (hg : w.cell? ⟨bg, 0, none⟩ = some (.int .i64 g.n)) (hd : IntsR w dv ds) (hb : ∀ k, k < ds.length → vtx g.n (ds[k]?.getD 0) = true) :
    Calls Try.prog 114 #[dv, .func (.func 93) #[] #[.pointer (some ⟨bg, 0, none⟩)]] w fun e w' => e = .returned (.int .i64 (-1)) ∧ w = w' := by
  obtain ⟨a, cap, rfl, hcap, hcm, hlen, hc⟩ := hd
  have HB := hid hb
  clear hb
  go_enter Try.func114, Try.ntmps114
  go_wp2
  go_loop [8] (fun i => ∃ k : Nat, k ≤ ds.length ∧ i = .int .i64 k) (fun i => ds.length - (intOf i).toNat)
  case atStart => exact ⟨0, Nat.zero_le _, rfl⟩
  case round =>
    obtain ⟨k, hkn, rfl⟩ := hrel
    by_cases hlt : k < ds.length
    · have hlt' : (k : Int) < (ds.length : Int) := by omega
      have hk0 : (0 : Int) ≤ (k : Int) := by omega
      obtain ⟨b, off, rfl, hb, hcc⟩ := hc.int (by omega)
      have c1 := hcc k hlt
      have hR := hid (f_listed1 g bg (ds[k]?.getD 0) w hg (HB.out k hlt))
      clear hcc hc
      generalize ds[k]?.getD 0 = x at *
      go_wp2_with (go_at_call 93; refine hR.out.mono ?_; rintro e w1 ⟨rfl, rfl⟩)
      go_round
      case rel => exact ⟨k + 1, by omega, by go_num⟩
      case measure => simp [intOf]; omega
    · have hlt' : ¬ (k : Int) < (ds.length : Int) := by omega
      go_wp2
      go_ret
      exact ⟨rfl, rfl⟩

theorem f_listedC (g : G) (bg : Nat) (ds : List Int) (dv : Value) (w : World) (hg : w.cell? ⟨bg, 0, none⟩ = some (.int .i64 g.n)) (hd : IntsR w dv ds) (hb : ∀ k, k < ds.length → vtx g.n (ds[k]?.getD 0) = true) :
    Calls Try.prog 92 #[dv, .func (.func 93) #[] #[.pointer (some ⟨bg, 0, none⟩)]] w fun e w' => e = .returned (.bool false) ∧ w = w' := by
  have hI := hid (f_listedI g bg ds dv w hg hd hb)
  clear hd hb
  go_enter Try.func92, Try.ntmps92
  go_wp2_with (go_at_call 114; refine hI.out.mono ?_; rintro e w1 ⟨rfl, rfl⟩)
  go_ret
  exact ⟨rfl, rfl⟩

set_option maxRecDepth 100000 in
set_option maxHeartbeats 1000000 in
theorem f_listed (g : G) (gv : Value) (ds : List Int) (dv : Value) (w : World) (hg : GrR w gv g) (hd : IntsR w dv ds) (hb : ∀ k, k < ds.length → vtx g.n (ds[k]?.getD 0) = true) (hl : ds.length ≤ 4096) :
    Calls Try.prog 68 #[gv, dv] w fun e w' => e = .returned (.int .i64 0) ∧ Below w.heap.size w w' := by
  obtain ⟨ev, rfl, _⟩ := hg
  obtain ⟨W1, hW1⟩ : ∃ W : World, W = w.alloc (.cells #[.int .i64 g.n, ev] 24) := ⟨_, rfl⟩
  have kA : Below w.heap.size w W1 := by rw [hW1]; exact (Below.refl _ _).alloc (Nat.le_refl _) _
  have hC := hid (f_listedC g w.heap.size ds dv W1 (by rw [hW1]; simp) (hd.below kA) hb)
  have hK := hid kA
  obtain ⟨a, cap, rfl, hcap, hcm, hlen, hc⟩ := hd
  have hl' : ¬ (4096 : Int) < (ds.length : Int) := by omega
  have hmf : ∀ (fn : Fn) (first cap : Array Value) (w : World), (Instr.makeFunc fn first cap).run Try.prog w = .ok (.func fn first cap) w := fun _ _ _ _ => rfl
  clear hc hb kA hl
  go_enter Try.func68, Try.ntmps68
  go_wp2_with fail
  rw [← hW1]
  clear hW1
  refine hC.out.mono ?_
  rintro e w1 ⟨rfl, rfl⟩
  go_simp
  go_wp2_with fail
  go_ret
  exact ⟨rfl, hK.out⟩

end Go.Proofs.Ytlhbgainpeehoaa

namespace Go.Proofs.Ytlhbgainpeehoaa
set_option linter.unusedVariables false
open Go.RowKit

/-- How often u stands among the first k of ms. -/
def cntTo (ms : List Int) : Nat → Nat → Int
  | 0, _ => 0
  | k + 1, u => cntTo ms k u + if ms[k]?.getD 0 = (u : Int) then 1 else 0
theorem cntTo_bd (ms : List Int) : ∀ k u, 0 ≤ cntTo ms k u ∧ cntTo ms k u ≤ k
  | 0, _ => by simp [cntTo]
  | k + 1, u => by
    have := cntTo_bd ms k u
    unfold cntTo
    split <;> omega

set_option maxRecDepth 100000 in
set_option maxHeartbeats 4000000 in
theorem f_Count (g : G) (gv : Value) (N : Nat) (hN1 : (N : Int) ≤ g.n) (hN2 : g.n ≤ (N : Int)) (hk : Gok g) (ms : List Int) (mv : Value) (w : World) (hg : GrR w gv g) (hm : IntsR w mv ms) (hb : ∀ k, k < ms.length → vtx g.n (ms[k]?.getD 0) = true) (hl : ms.length ≤ 4096) :
    Calls Try.prog 36 #[gv, mv] w fun e w' => ∃ b, e = .returned (.tuple #[.slice (some ⟨b, 0, none⟩) N N, .int .i64 0]) ∧
      w'.ownsRow w.heap.size 3 1 (.slice (some ⟨b, 0, none⟩) N N) N ((vecOf N (cntTo ms ms.length)).map (Value.int .i64)) ∧ Below w.heap.size w w' := by
  have hn := hk.n
  have hg' := hg
  obtain ⟨ev, rfl, _⟩ := hg'
  obtain ⟨W1, hW1⟩ : ∃ W : World, W = w.alloc (.cells #[.int .i64 g.n, ev] 24) := ⟨_, rfl⟩
  have kA : Below w.heap.size w W1 := by rw [hW1]; exact (Below.refl _ _).alloc (Nat.le_refl _) _
  have hC := hid (p_Check g _ _ (hg.below kA))
  have HK := hid kA
  have he1 : checkErr g = 0 := hk
  rw [he1] at hC
  have hgn : W1.cell? ⟨w.heap.size, 0, none⟩ = some (.int .i64 g.n) := by rw [hW1]; simp
  have hge : W1.cell? ⟨w.heap.size, 1, none⟩ = some ev := by rw [hW1]; simp
  have hsz : w.heap.size < W1.heap.size := by rw [hW1]; simp
  have hD := hid (fun w2 (hB : Below W1.heap.size W1 w2) => f_listed g _ ms mv w2 ((hg.below kA).below hB) ((hm.below kA).below hB) hb hl)
  have HM := hid (hm.below kA)
  have hmk := run_zer (P := Try.prog) 33 3 Try.underScript Try.infoInt g.n N hN1 hN2 (by omega)
  have HV := hid hb
  obtain ⟨a, cap, rfl, _⟩ := hm
  clear kA hg hk he1 hb
  go_enter Try.func36, Try.ntmps36
  go_wp2_with fail
  rw [← hW1]
  clear hW1
  refine hC.out.mono ?_
  rintro e w2 ⟨rfl, hB2⟩
  have cg := (hB2.cell (p := ⟨w.heap.size, 0, none⟩) hsz).trans hgn
  have ce := (hB2.cell (p := ⟨w.heap.size, 1, none⟩) hsz).trans hge
  have HB2 := hid (up HK.out hB2)
  have hD2 := hid (hD.out w2 hB2)
  have HM2 := hid (HM.out.below hB2)
  have hz2 := hB2.size
  clear hC HK hgn hge hB2 hD HM
  go_simp
  go_wp2_with fail
  refine hD2.out.mono ?_
  rintro e w3 ⟨rfl, hB3⟩
  have cg3 := (hB3.cell (p := ⟨w.heap.size, 0, none⟩) (by dsimp only; omega)).trans cg
  have HB3 := hid (up HB2.out hB3)
  have HM3 := hid (HM2.out.below hB3)
  have hz3 := hB3.size
  clear hD2 HB2 hB3 HM2 cg ce
  go_simp
  go_upto_region 8 with fail
  obtain ⟨W4, hW4⟩ : ∃ W : World, W = w3.alloc (.cells (zer N) 3) := ⟨_, rfl⟩
  rw [← hW4]
  have hB4 : Below w3.heap.size w3 W4 := by rw [hW4]; exact (Below.refl _ _).alloc (Nat.le_refl _) _
  have HO : Hid (W4.ownsRow w3.heap.size 3 1 (.slice (some ⟨w3.heap.size, 0, none⟩) N N) N ((vecOf N (cntTo ms 0)).map (Value.int .i64))) := by
    rw [hW4]
    show (w3.alloc (.cells (zer N) 3)).ownsRow w3.heap.size 3 1 (.slice (some ⟨w3.heap.size, 0, none⟩) N N) N ((vecOf N (fun _ => 0)).map (Value.int .i64))
    exact ownZ (by simp) (by omega) (by omega)
  obtain ⟨a', cap', hcv, hcap, hcm, hlen, hc⟩ := HM3.out
  injection hcv with e1 e2 e3
  subst e1 e3
  have HC := hid hc
  have hz4 : w3.heap.size < W4.heap.size := by rw [hW4]; simp
  have HB4 := hid hB4
  clear hc HM3 hB4 hW4 e2 cg3
  go_wp2
  go_loopw [27] (fun i wr => ∃ k : Nat, k ≤ ms.length ∧ i = .int .i64 k ∧ Hid (wr.ownsRow w3.heap.size 3 1 (.slice (some ⟨w3.heap.size, 0, none⟩) N N) N ((vecOf N (cntTo ms k)).map (Value.int .i64))) ∧ Hid (Below w3.heap.size w3 wr)) (fun i _ => ms.length - (intOf i).toNat)
  case atStart => exact ⟨0, Nat.zero_le _, rfl, HO, HB4⟩
  case round =>
    clear HO HB4
    obtain ⟨k, hkn, rfl, HO, HB⟩ := hrel
    by_cases hlt : k < ms.length
    · have hlt' : (k : Int) < (ms.length : Int) := by omega
      have hk0 : (0 : Int) ≤ (k : Int) := by omega
      obtain ⟨b, off, rfl, hb, hcc⟩ := HC.out.int (by omega)
      have hv := HV.out k hlt
      have c1 := (HB.out.cell (p := ⟨b, off + k, none⟩) hb).trans (hcc k hlt)
      have hbw : b < wr.heap.size := by have := HB.out.size; omega
      have HST : Hid (∀ u, cntTo ms (k + 1) u = cntTo ms k u + if ms[k]?.getD 0 = (u : Int) then 1 else 0) := fun u => rfl
      clear hcc
      generalize ms[k]?.getD 0 = x at *
      unfold vtx at hv
      simp only [Bool.and_eq_true, decide_eq_true_eq] at hv
      obtain ⟨X, rfl⟩ := Int.eq_ofNat_of_zero_le hv.1
      have hX : X < N := by omega
      have hXN : (X : Int) < (N : Int) := by omega
      have hX0 : (0 : Int) ≤ (X : Int) := by omega
      have cX := owns_int HO.out X hX
      rw [vecOf_get _ _ _ hX] at cX
      have fX := HO.out.frozenAt X
      have lX := (owns_lt HO.out).2
      have hbd := cntTo_bd ms k X
      have HO2 : Hid ((wr.setCell ⟨w3.heap.size, X, none⟩ (.int .i64 (cntTo ms k X + 1))).ownsRow w3.heap.size 3 1 (.slice (some ⟨w3.heap.size, 0, none⟩) N N) N ((vecOf N (cntTo ms (k + 1))).map (Value.int .i64))) := by
        have h := owns_set (f := Value.int .i64) HO.out X (cntTo ms k X + 1)
        rw [vecOf_set] at h
        rw [vecOf_congr N (cntTo ms (k + 1)) (fun u => if u = X then cntTo ms k X + 1 else cntTo ms k u) (fun u _ => by
          rw [HST.out u]
          by_cases e : u = X
          · subst e; simp
          · rw [if_neg e, if_neg (by omega)]; omega)]
        exact h
      have HB2 := hid (HB.out.setCell (p := ⟨w3.heap.size, X, none⟩) (Nat.le_refl _) (.int .i64 (cntTo ms k X + 1)))
      generalize cntTo ms k X = y at *
      have ww : IntKind.i64.wrap (y + 1) = y + 1 := IntWalk.i64_in _ (by omega)
      clear hv HO HB HST
      go_wp2
      go_roundw
      case rel => exact ⟨k + 1, by omega, by go_num, HO2, HB2⟩
      case measure => simp [intOf]; omega
    · have hlt' : ¬ (k : Int) < (ms.length : Int) := by omega
      have e : k = ms.length := by omega
      subst e
      have HOE := hid (owns_base HO.out (show w.heap.size ≤ w3.heap.size by omega))
      have HBE := hid (up HB3.out HB.out)
      clear HO HB
      go_wp2
      go_ret2
      exact ⟨_, rfl, HOE.out, HBE.out⟩

end Go.Proofs.Ytlhbgainpeehoaa

namespace Go.Proofs.Ytlhbgainpeehoaa
set_option linter.unusedVariables false
open Go.RowKit

/-- The chips after the first k of ms fired. -/
def plTo (g : G) (L : Nat → Int) (ms : List Int) : Nat → Nat → Int
  | 0 => L
  | k + 1 => fireL g (ms[k]?.getD 0).toNat (plTo g L ms k)

set_option maxRecDepth 100000 in
set_option maxHeartbeats 4000000 in
theorem f_Play (g : G) (gv : Value) (N : Nat) (hN1 : (N : Int) ≤ g.n) (hN2 : g.n ≤ (N : Int)) (hk : Gok g) (ds : List Int) (dv : Value) (L : Nat → Int) (hL : ds = vecOf N L) (ms : List Int) (mv : Value) (w : World) (hg : GrR w gv g) (hd : IntsR w dv ds) (hm : IntsR w mv ms)
    (he : dErr ds g.n = 0) (hv : ∀ k, k < ms.length → vtx g.n (ms[k]?.getD 0) = true) (hl : ms.length ≤ 4096)
    (hleg : ∀ k, k < ms.length → 0 < valence g (ms[k]?.getD 0).toNat ∧ valence g (ms[k]?.getD 0).toNat ≤ plTo g L ms k (ms[k]?.getD 0).toNat)
    (hbd : ∀ k, k ≤ ms.length → ∀ u, u < N → -1048576 ≤ plTo g L ms k u ∧ plTo g L ms k u ≤ 1048576) :
    Calls Try.prog 38 #[gv, dv, mv] w fun e w' => ∃ b c, e = .returned (.tuple #[.slice (some ⟨b, 0, none⟩) N c, .int .i64 ms.length, .int .i64 0]) ∧
      w'.ownsRow w.heap.size 3 1 (.slice (some ⟨b, 0, none⟩) N c) N ((vecOf N (plTo g L ms ms.length)).map (Value.int .i64)) ∧ Below w.heap.size w w' := by
  subst hL
  have hn := hk.n
  have hg' := hg
  obtain ⟨ev, rfl, ea, ec, rfl, _⟩ := hg'
  obtain ⟨W1, hW1⟩ : ∃ W : World, W = w.alloc (.cells #[.int .i64 g.n, .slice ea g.es.length ec] 24) := ⟨_, rfl⟩
  have kA : Below w.heap.size w W1 := by rw [hW1]; exact (Below.refl _ _).alloc (Nat.le_refl _) _
  have HK := hid kA
  have hgn : W1.cell? ⟨w.heap.size, 0, none⟩ = some (.int .i64 g.n) := by rw [hW1]; simp
  have hge : W1.cell? ⟨w.heap.size, 1, none⟩ = some (.slice ea g.es.length ec) := by rw [hW1]; simp
  have hsz : w.heap.size < W1.heap.size := by rw [hW1]; simp
  have hC := hid (f_given g _ hk _ dv W1 (hg.below kA) (hd.below kA) he)
  have hD := hid (fun w2 (hB : Below W1.heap.size W1 w2) => f_listed g _ ms mv w2 ((hg.below kA).below hB) ((hm.below kA).below hB) hv hl)
  have HG := hid (hg.below kA)
  have HD := hid (hd.below kA)
  have HM := hid (hm.below kA)
  have HV := hid hv
  have HLeg := hid hleg
  have HBd := hid hbd
  have HGk := hid hk
  have hN12 : N ≤ 12 := by omega
  have hdl : 0 < (vecOf N L).length := by rw [vecOf_len]; omega
  have hcl := hid (fun w3 (h : IntsR w3 dv (vecOf N L)) => c_Clone (vecOf N L) dv w3 h hdl)
  rw [vecOf_len] at hcl
  obtain ⟨ma, mc, rfl, _⟩ := hm
  have hmf : ∀ (fn : Fn) (first cap : Array Value) (w : World), (Instr.makeFunc fn first cap).run Try.prog w = .ok (.func fn first cap) w := fun _ _ _ _ => rfl
  have hml := hid hl
  clear kA hg hd hk hv hleg hbd he hdl hl
  go_enter Try.func38, Try.ntmps38
  go_wp2_with fail
  rw [← hW1]
  clear hW1
  refine hC.out.mono ?_
  rintro e w2 ⟨rfl, hB2⟩
  have k2 := hid (up HK.out hB2)
  have cg2 := (hB2.cell (p := ⟨w.heap.size, 0, none⟩) hsz).trans hgn
  have ce2 := (hB2.cell (p := ⟨w.heap.size, 1, none⟩) hsz).trans hge
  have hD2 := hid (hD.out w2 hB2)
  have HG2 := hid (HG.out.below hB2)
  have HD2 := hid (HD.out.below hB2)
  have HM2 := hid (HM.out.below hB2)
  have hz2 := hB2.size
  clear hC HK hgn hge hB2 hD HG HD HM
  go_simp
  go_wp2_with fail
  refine hD2.out.mono ?_
  rintro e w3 ⟨rfl, hB3⟩
  have k3 := hid (up k2.out hB3)
  have cg3 := (hB3.cell (p := ⟨w.heap.size, 0, none⟩) (by dsimp only; omega)).trans cg2
  have ce3 := (hB3.cell (p := ⟨w.heap.size, 1, none⟩) (by dsimp only; omega)).trans ce2
  have HG3 := hid (HG2.out.below hB3)
  have HD3 := hid (HD2.out.below hB3)
  have HM3 := hid (HM2.out.below hB3)
  have hz3 := hB3.size
  clear hD2 k2 hB3 HG2 HD2 HM2 cg2 ce2
  go_simp
  go_upto_region 7 with fail
  let S : World → Prop := fun w' => w'.cell? ⟨w.heap.size, 0, none⟩ = some (.int .i64 g.n) ∧ w'.cell? ⟨w.heap.size, 1, none⟩ = some (.slice ea g.es.length ec)
  (refine wp_region_text 5 [0,1,2,3,4] S (by kernel_rfl) (by kernel_rfl) (by intro _ _ d _ _ h; cases d <;> exact h) ?hS ?_; rotate_left; simp only [List.map_cons, List.map_nil, List.getD_cons_zero, List.getD_cons_succ, List.drop_succ_cons, List.drop_zero])
  case hS => exact ⟨cg3, ce3⟩
  (repeat (refine' wpSeq_take rfl _ (by rfl) ?_ ?_; rotate_left; focus (intro w' hS; (try dsimp only at hS); obtain ⟨s1, s2⟩ := hS; go_simp; (first | done | with_reducible rfl)); (try simp only [Act.put, List.setIfInBounds_toArray, List.set_cons_zero, List.set_cons_succ])))
  have hcl3 := hid (hcl.out _ (HD3.out.below (Below.drew (Below.refl _ _))))
  refine wpSeq_call rfl (by rfl) (fun K hK => ?_)
  go_simp
  refine hcl3.out.mono ?_
  rintro e w4 ⟨bl, cl, rfl, hO4, hB4⟩
  have k4 := hid (up k3.out.drew hB4)
  have HO4 := hid hO4
  have HB4 := hid (up (Below.drew (Below.refl _ _)) hB4)
  have hz4 : w3.heap.size ≤ w4.heap.size := hB4.size
  have HG4 := hid (HG3.out.below HB4.out)
  have HM4 := hid (HM3.out.below HB4.out)
  refine hK _ _ ⟨(HB4.out.cell (p := ⟨w.heap.size, 0, none⟩) (by dsimp only; omega)).trans cg3, (HB4.out.cell (p := ⟨w.heap.size, 1, none⟩) (by dsimp only; omega)).trans ce3⟩ ?_
  clear hK K hcl3 hO4 hB4 hcl HD3
  (repeat (refine' wpSeq_take rfl _ (by rfl) ?_ ?_; rotate_left; focus (intro w' hS; (try dsimp only at hS); obtain ⟨s1, s2⟩ := hS; go_simp; (first | done | with_reducible rfl)); (try simp only [Act.put, List.setIfInBounds_toArray, List.set_cons_zero, List.set_cons_succ])))
  obtain ⟨W5, hW5⟩ : ∃ W : World, W = w4.alloc (.cells #[.int .i64 g.n, .slice ea g.es.length ec, .slice (some ⟨bl, 0, none⟩) N cl] 122) := ⟨_, rfl⟩
  have hK5 : Below w4.heap.size w4 W5 := by rw [hW5]; exact (Below.refl _ _).alloc (Nat.le_refl _) _
  have HGm : Hid (Gm g (.slice ea g.es.length ec) w3.heap.size w3 W5 w4.heap.size bl cl N (plTo g L ms 0)) := by
    rw [hW5]
    exact ⟨Blk.new _ _ _, HO4.out.alloc _, by omega, rfl, HB4.out.alloc HB4.out.size _, HG3.out⟩
  have hz5 : W5.heap.size = w4.heap.size + 1 := by rw [hW5]; simp
  have HM5 := hid (HM4.out.below hK5)
  refine wpSeq_call rfl (by rfl) (fun K hK => ?_)
  go_simp
  rw [← hW5]
  refine hK _ _ ⟨(hK5.cell (p := ⟨w.heap.size, 0, none⟩) (by dsimp only; omega)).trans ((HB4.out.cell (p := ⟨w.heap.size, 0, none⟩) (by dsimp only; omega)).trans cg3), (hK5.cell (p := ⟨w.heap.size, 1, none⟩) (by dsimp only; omega)).trans ((HB4.out.cell (p := ⟨w.heap.size, 1, none⟩) (by dsimp only; omega)).trans ce3)⟩ ?_
  have hK50 := HGm.out.below
  clear hK K hW5 hK5 HO4 HB4 HG4 HM4 HG3 k4
  (repeat (refine' wpSeq_take rfl _ (by rfl) ?_ ?_; rotate_left; focus (intro w' hS; (try dsimp only at hS); obtain ⟨s1, s2⟩ := hS; go_simp; (first | done | with_reducible rfl)); (try simp only [Act.put, List.setIfInBounds_toArray, List.set_cons_zero, List.set_cons_succ])))
  refine wpSeq_nil ?_
  clear S cg3 ce3
  obtain ⟨ma', mc', hcv, hcap, hcm, hlen, hc⟩ := HM3.out
  injection hcv with e1 e2 e3
  subst e1 e3
  have HC := hid hc
  have HBs := hid (HGm.out.below.size)
  clear hc e2 HM5 HM3 hK50
  generalize w4.heap.size = b at *
  go_wp2
  go_loopw [38] (fun i wr => ∃ k : Nat, ∃ bl cl, k ≤ ms.length ∧ i = .int .i64 k ∧ Hid (Gm g (.slice ea g.es.length ec) w3.heap.size w3 wr b bl cl N (plTo g L ms k))) (fun i _ => ms.length - (intOf i).toNat)
  case atStart => exact ⟨0, bl, cl, Nat.zero_le _, rfl, HGm⟩
  case round =>
    clear HGm HBs
    obtain ⟨k, bl, cl, hkn, rfl, HM⟩ := hrel
    have HBw := hid HM.out.below
    by_cases hlt : k < ms.length
    · have hlt' : (k : Int) < (ms.length : Int) := by omega
      have hk0 : (0 : Int) ≤ (k : Int) := by omega
      obtain ⟨bm, off, rfl, hb, hcc⟩ := HC.out.int (by omega)
      have c1 := (HBw.out.cell (p := ⟨bm, off + k, none⟩) hb).trans (hcc k hlt)
      have hbw : bm < wr.heap.size := by have := HBw.out.size; omega
      have hv := HV.out k hlt
      have hleg := HLeg.out k hlt
      have hbd := hid (HBd.out k hkn)
      have hbd1 := hid (HBd.out (k + 1) (by omega))
      have HST : Hid (plTo g L ms (k + 1) = fireL g (ms[k]?.getD 0).toNat (plTo g L ms k)) := rfl
      clear hcc
      generalize ms[k]?.getD 0 = x at *
      unfold vtx at hv
      simp only [Bool.and_eq_true, decide_eq_true_eq] at hv
      obtain ⟨X, rfl⟩ := Int.eq_ofNat_of_zero_le hv.1
      have hX : X < N := by omega
      rw [Int.toNat_natCast] at hleg HST
      have hMay := hid (f_may g _ _ _ _ _ _ _ _ _ HM.out hN1 HGk.out X hX hleg.1 hleg.2)
      clear hleg hv
      go_wp2_with fail
      refine hMay.out.mono ?_
      rintro e w6 ⟨rfl, hB6⟩
      have HM6 := hid (HM.out.mono hB6)
      have hF := hid (f_fire g _ _ _ _ _ _ _ _ _ HM6.out hN1 hN2 HGk.out X hX (fun u hu => by have := hbd.out u hu; omega))
      clear hMay hB6 HM c1 hb hbw
      go_simp
      go_wp2_with fail
      refine hF.out.mono ?_
      rintro e w7 ⟨rfl, bl7, cl7, hG7⟩
      rw [← HST.out] at hG7
      obtain ⟨q0, q1, q2⟩ := hG7.cells
      have lb := hG7.blk.lt
      have HB7 := hid (f_bounded (vecOf N (plTo g L ms (k + 1))) (.slice (some ⟨bl7, 0, none⟩) N cl7) w7 (owns_intsN hG7.row (vecOf_len _ _) (by omega)) (fun j hj => by
        rw [vecOf_len] at hj
        rw [vecOf_get _ _ _ hj]
        have := hbd1.out j hj
        unfold inB
        simp
        omega))
      have HG7 := hid hG7
      clear hF HM6 hG7 hbd hbd1 HST q0 q1
      go_simp
      go_wp2_with fail
      refine HB7.out.mono ?_
      rintro e w8 ⟨rfl, rfl⟩
      clear HB7 q2
      go_simp
      go_wp2_with fail
      go_roundw
      case rel => exact ⟨k + 1, bl7, cl7, by omega, by go_num, HG7⟩
      case measure => simp [intOf]; omega
    · have hlt' : ¬ (k : Int) < (ms.length : Int) := by omega
      have e : k = ms.length := by omega
      subst e
      obtain ⟨q0, q1, q2⟩ := HM.out.cells
      have HOE := hid (owns_base HM.out.row (show w.heap.size ≤ w3.heap.size by omega))
      have HBE := hid (up k3.out HBw.out)
      have lb := HM.out.blk.lt
      clear HM HBw q0 q1
      go_wp2
      go_ret3
      exact ⟨_, _, rfl, HOE.out, HBE.out⟩

end Go.Proofs.Ytlhbgainpeehoaa
