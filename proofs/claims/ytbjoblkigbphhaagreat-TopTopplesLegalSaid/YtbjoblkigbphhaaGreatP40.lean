/-
  Contracts of the program's firing: of, moved (for one vertex), fire, bounded, given, listed, Count, Play, may; of its graph: at, Valence.
-/
import Derived.Test.YtbjoblkigbphhaaGreatP32
namespace Go.Proofs.YtbjoblkigbphhaaGreat
set_option linter.unusedVariables false
open Go.RowKit

/-- What moves along one edge when v fires. -/
def fE (v u : Nat) (x : E) : Int := if u = v then -(valE v x) else rowE v u x
def movTo (g : G) (v : Nat) (L : Nat → Int) (k u : Nat) : Int := L u + sumE (fE v u) (g.es.take k)
theorem movTo_zero (g : G) (v : Nat) (L : Nat → Int) (u : Nat) : movTo g v L 0 u = L u := by unfold movTo; simp [sumE]
theorem movTo_step (g : G) (v : Nat) (L : Nat → Int) (k u : Nat) (h : k < g.es.length) : movTo g v L (k + 1) u = movTo g v L k u + fE v u (g.es[k]?.getD default) := by
  unfold movTo
  rw [take_step _ _ h, sumE_append]
  show _ = _ + sumE _ _ + _
  have : sumE (fE v u) [g.es[k]?.getD default] = fE v u (g.es[k]?.getD default) := by simp [sumE]
  rw [this]
  omega
theorem sumE_negv (f : E → Int) : ∀ l : List E, sumE (fun x => -(f x)) l = -(sumE f l)
  | [] => rfl
  | x :: l => by unfold sumE; rw [sumE_negv f l]; omega
theorem movTo_end {g : G} (h : Gok g) (v : Nat) (L : Nat → Int) (u : Nat) : movTo g v L g.es.length u = fireL g v L u := by
  unfold movTo fireL
  rw [List.take_length]
  by_cases e : u = v
  · subst e
    have h1 : sumE (fE u u) g.es = -(sumE (valE u) g.es) := by
      rw [← sumE_negv]
      exact sumE_congr _ _ _ fun x _ => by unfold fE; rw [if_pos rfl]
    have h2 := valTo_end h u
    unfold valTo at h2
    rw [List.take_length] at h2
    have h3 : rowsF g u u = 0 := by unfold rowsF; simp
    rw [h1, h2, if_pos rfl, h3]
    omega
  · have h1 : sumE (fE v u) g.es = sumE (rowE v u) g.es := sumE_congr _ _ _ fun x _ => by unfold fE; rw [if_neg e]
    have h2 := rowTo_end h v u
    unfold rowTo at h2
    rw [List.take_length] at h2
    rw [h1, h2, if_neg e]
theorem fE_bd {g : G} (h : Gok g) (v u : Nat) {x : E} (hx : x ∈ g.es) : -100 ≤ fE v u x ∧ fE v u x ≤ 100 := by
  have := h.mem hx
  unfold fE valE rowE
  repeat' split
  all_goals omega
theorem movTo_bd {g : G} (h : Gok g) (v : Nat) (L : Nat → Int) (u : Nat) (hL : -1000000000000 ≤ L u ∧ L u ≤ 1000000000000) : ∀ k, k ≤ g.es.length → -1000000000000 - 100 * k ≤ movTo g v L k u ∧ movTo g v L k u ≤ 1000000000000 + 100 * k
  | 0, _ => by rw [movTo_zero]; omega
  | k + 1, hk => by
    have ih := movTo_bd h v L u hL k (by omega)
    rw [movTo_step g v L k u (by omega)]
    have := fE_bd h v u (x := g.es[k]?.getD default) (by rw [List.getElem?_eq_getElem (by omega)]; exact List.getElem_mem _)
    omega

/-- One edge: what along does to the row. -/
theorem fE_edge (v A B : Nat) (m : Int) (X : Nat → Int) (u : Nat) :
    (if u = B then (if B = A then X A - m * (oneAt v 1 A - oneAt v 1 B) else X B) + m * (oneAt v 1 A - oneAt v 1 B) else if u = A then X A - m * (oneAt v 1 A - oneAt v 1 B) else X u) = X u + fE v u ⟨A, B, m⟩ := by
  unfold fE valE rowE oneAt
  by_cases hAB : A = B
  · subst hAB
    by_cases h1 : u = A
    · subst h1; simp
    · simp [h1]
  · have hAB' : ¬ (A : Int) = (B : Int) := by omega
    have hBA : ¬ B = A := fun h => hAB h.symm
    by_cases hvA : A = v
    · subst hvA
      have hB1 : ¬ (B : Int) = (A : Int) := by omega
      by_cases h1 : u = B
      · subst h1; simp [hBA, hAB', hB1]
      · by_cases h2 : u = A
        · subst h2; simp [h1, hAB', hB1]; omega
        · have h3 : ¬ (B : Int) = (u : Int) := by omega
          simp [h1, h2, h3, hAB']
    · have hvA' : ¬ (A : Int) = (v : Int) := by omega
      by_cases hvB : B = v
      · subst hvB
        by_cases h1 : u = B
        · subst h1; simp [hBA, hAB']
        · by_cases h2 : u = A
          · subst h2; simp [h1, hAB']
          · have h3 : ¬ (A : Int) = (u : Int) := by omega
            simp [h1, h2, h3, hAB']
      · have hvB' : ¬ (B : Int) = (v : Int) := by omega
        by_cases h1 : u = B
        · subst h1; simp [hBA, hAB', hvA', hvB']
        · by_cases h2 : u = A
          · subst h2; simp [h1, hAB', hvA', hvB']
          · simp [h1, h2, hAB', hvA', hvB']

set_option maxRecDepth 100000 in
set_option maxHeartbeats 2000000 in
theorem f_along (N A B m : Nat) (hA : A < N) (hB : B < N) (hm : m ≤ 50) (v : Nat) (X : Nat → Int) (hX : ∀ u, u < N → -2000000000000 ≤ X u ∧ X u ≤ 2000000000000) (base bs bo bl cl bz cz : Nat) (w : World)
    (c1 : w.cell? ⟨bs, 0, none⟩ = some (.slice (some ⟨bz, 0, none⟩) N cz)) (c2 : w.cell? ⟨bo, 0, none⟩ = some (.slice (some ⟨bl, 0, none⟩) N cl)) (hz : ∀ u, u < N → w.cell? ⟨bz, u, none⟩ = some (.int .i64 (oneAt v 1 u)))
    (ho : w.ownsRow base 3 1 (.slice (some ⟨bl, 0, none⟩) N cl) N ((vecOf N X).map (Value.int .i64))) (n1 : bs ≠ bl) (n2 : bo ≠ bl) (n3 : bz ≠ bl) (hbs : bs < w.heap.size) (hbo : bo < w.heap.size) (hbz : bz < w.heap.size) (hbase : base ≤ w.heap.size) :
    Calls Tryz.prog 61 #[.agg #[.int .i64 A, .int .i64 B, .int .i64 m], .pointer (some ⟨bs, 0, none⟩), .pointer (some ⟨bo, 0, none⟩)] w fun e w' => e = .returned (.tuple #[]) ∧
      w'.ownsRow base 3 1 (.slice (some ⟨bl, 0, none⟩) N cl) N ((vecOf N fun u => X u + fE v u ⟨A, B, m⟩).map (Value.int .i64)) ∧ KeptB w w' (fun k => k = bl) ∧ Below base w w' := by
  have hbl := owns_lt ho
  have z1 := hz A hA
  have z2 := hz B hB
  have hA0 : (0 : Int) ≤ (A : Int) := by omega
  have hA1 : (A : Int) < (N : Int) := by omega
  have hB0 : (0 : Int) ≤ (B : Int) := by omega
  have hB1 : (B : Int) < (N : Int) := by omega
  have ho1 : ∀ u : Nat, 0 ≤ oneAt v 1 u ∧ oneAt v 1 u ≤ 1 := fun u => by unfold oneAt; split <;> omega
  have oA := ho1 A
  have oB := ho1 B
  have HFE := hid (fun u => fE_edge v A B m X u)
  have HXb := hid hX
  have w1 : IntKind.i64.wrap (oneAt v 1 A - oneAt v 1 B) = oneAt v 1 A - oneAt v 1 B := IntWalk.i64_in _ (by omega)
  have hfl : -50 ≤ (m : Int) * (oneAt v 1 A - oneAt v 1 B) ∧ (m : Int) * (oneAt v 1 A - oneAt v 1 B) ≤ 50 := by
    rcases (show oneAt v 1 A - oneAt v 1 B = -1 ∨ oneAt v 1 A - oneAt v 1 B = 0 ∨ oneAt v 1 A - oneAt v 1 B = 1 by omega) with e | e | e
    · rw [e]; omega
    · rw [e]; omega
    · rw [e]; omega
  have w2 : IntKind.i64.wrap ((m : Int) * (oneAt v 1 A - oneAt v 1 B)) = (m : Int) * (oneAt v 1 A - oneAt v 1 B) := IntWalk.i64_in _ (by omega)
  have HW : Hid (Below w.heap.size w (w.alloc (.cells #[.int .i64 A, .int .i64 B, .int .i64 m] 96))) := (Below.refl _ _).alloc (Nat.le_refl _) _
  have HO := hid ho
  clear hX ho hz ho1 oA oB
  generalize hp : oneAt v 1 A = p at *
  generalize hq : oneAt v 1 B = r at *
  clear hp hq
  go_enter Tryz.func61, Tryz.ntmps61
  go_upto_region 1 with fail
  obtain ⟨W1, hW1⟩ : ∃ W : World, W = w.alloc (.cells #[.int .i64 A, .int .i64 B, .int .i64 m] 96) := ⟨_, rfl⟩
  rw [← hW1]
  have hE : Blk W1 w.heap.size #[.int .i64 A, .int .i64 B, .int .i64 m] 96 := by rw [hW1]; exact Blk.new _ _ _
  rw [← hW1] at HW
  clear hW1
  have e0 := hE.cell 0
  have e1 := hE.cell 1
  have e2 := hE.cell 2
  simp only [List.getElem?_toArray, List.getElem?_cons_zero, List.getElem?_cons_succ] at e0 e1 e2
  have d1 := (HW.out.cell (p := ⟨bs, 0, none⟩) hbs).trans c1
  have d2 := (HW.out.cell (p := ⟨bo, 0, none⟩) hbo).trans c2
  have y1 := (HW.out.cell (p := ⟨bz, A, none⟩) hbz).trans z1
  have y2 := (HW.out.cell (p := ⟨bz, B, none⟩) hbz).trans z2
  let S : World → Prop := fun w' => w'.cell? ⟨w.heap.size, 0, none⟩ = some (.int .i64 A) ∧ w'.cell? ⟨w.heap.size, 1, none⟩ = some (.int .i64 B) ∧ w'.cell? ⟨w.heap.size, 2, none⟩ = some (.int .i64 m) ∧ w'.cell? ⟨bs, 0, none⟩ = some (.slice (some ⟨bz, 0, none⟩) N cz) ∧
    w'.cell? ⟨bz, A, none⟩ = some (.int .i64 p) ∧ w'.cell? ⟨bz, B, none⟩ = some (.int .i64 r)
  (refine wp_region_text 14 [0,1,2,3,4,5,6,7,8,9,10,11,12,13] S (by kernel_rfl) (by kernel_rfl) (by intro _ _ d _ _ h; cases d <;> exact h) ?hS ?_; rotate_left; simp only [List.map_cons, List.map_nil, List.getD_cons_zero, List.getD_cons_succ, List.drop_succ_cons, List.drop_zero])
  case hS => exact ⟨e0, e1, e2, d1, y1, y2⟩
  (repeat ((refine' wpSeq_take rfl _ (by rfl) ?_ ?_; rotate_left; focus (intro w' hS; (try dsimp only at hS); obtain ⟨s1, s2, s3, s4, s5, s6⟩ := hS; go_simp; (first | done | with_reducible rfl)); (try simp only [Act.put, List.setIfInBounds_toArray, List.set_cons_zero, List.set_cons_succ])); (try simp only [Act.put, List.setIfInBounds_toArray, List.set_cons_zero, List.set_cons_succ])))
  refine wpSeq_nil ?_
  clear S
  generalize (m : Int) * (p - r) = fl at *
  have HO1 := hid (owns_below HO.out HW.out)
  have cA := owns_int HO1.out A hA
  rw [vecOf_get _ _ _ hA] at cA
  have fA := HO1.out.frozenAt A
  have lA := (owns_lt HO1.out).2
  have hXA := HXb.out A hA
  have hXB := HXb.out B hB
  have w3 : IntKind.i64.wrap (X A - fl) = X A - fl := IntWalk.i64_in _ (by omega)
  clear d1 y1 y2 c1 z1 z2 w1 w2
  go_upto_region 3 with fail
  obtain ⟨W2, hW2⟩ : ∃ W : World, W = (W1.setCell ⟨bl, A, none⟩ (.int .i64 (X A - fl))).drew := ⟨_, rfl⟩
  rw [← hW2]
  have HO2 : Hid (W2.ownsRow base 3 1 (.slice (some ⟨bl, 0, none⟩) N cl) N ((vecOf N fun u => if u = A then X A - fl else X u).map (Value.int .i64))) := by
    have h := owns_set (f := Value.int .i64) HO1.out A (X A - fl)
    rw [vecOf_set] at h
    rw [hW2]
    exact h.drew
  have HK2 : Hid (KeptB w W2 (fun k => k = bl)) := by
    rw [hW2]
    exact kept_trans (kept_set (p := fun k => k = bl) (kept_below HW.out) (b := bl) rfl _ _) (kept_below (p := fun _ => False) (Below.drew (Below.refl _ _))) (fun _ h => h.elim)
  have HB2 : Hid (Below base w W2) := by
    rw [hW2]
    exact ((HW.out.mono hbase).setCell (p := ⟨bl, A, none⟩) hbl.1 _).drew
  have hE2 : Blk W2 w.heap.size #[.int .i64 A, .int .i64 B, .int .i64 m] 96 := by
    rw [hW2]
    exact (hE.other (by omega) _ _)
  have d2' : W2.cell? ⟨bo, 0, none⟩ = some (.slice (some ⟨bl, 0, none⟩) N cl) := (HK2.out.cell bo 0 hbo n2).trans c2
  clear hW2 hE e0 e1 e2 d2 cA fA lA w3 HO1 c2
  have e0 := hE2.cell 0
  have e1 := hE2.cell 1
  simp only [List.getElem?_toArray, List.getElem?_cons_zero, List.getElem?_cons_succ] at e0 e1
  have cB := owns_int HO2.out B hB
  rw [vecOf_get _ _ _ hB] at cB
  have fB := HO2.out.frozenAt B
  have lB := (owns_lt HO2.out).2
  have hyb : -3000000000000 ≤ (if B = A then X A - fl else X B) ∧ (if B = A then X A - fl else X B) ≤ 3000000000000 := by split <;> omega
  have HO3 : Hid ((W2.setCell ⟨bl, B, none⟩ (.int .i64 ((if B = A then X A - fl else X B) + fl))).ownsRow base 3 1 (.slice (some ⟨bl, 0, none⟩) N cl) N ((vecOf N fun u => X u + fE v u ⟨A, B, m⟩).map (Value.int .i64))) := by
    have h := owns_set (f := Value.int .i64) HO2.out B ((if B = A then X A - fl else X B) + fl)
    rw [vecOf_set] at h
    rw [vecOf_congr N _ (fun u => X u + fE v u ⟨A, B, m⟩) (fun u _ => HFE.out u)] at h
    exact h
  have HK3 := hid (kept_set (p := fun k => k = bl) HK2.out (b := bl) rfl B (.int .i64 ((if B = A then X A - fl else X B) + fl)))
  have HB3 := hid (HB2.out.setCell (p := ⟨bl, B, none⟩) hbl.1 (.int .i64 ((if B = A then X A - fl else X B) + fl)))
  generalize (if B = A then X A - fl else X B) = y at *
  have w4 : IntKind.i64.wrap (y + fl) = y + fl := IntWalk.i64_in _ (by omega)
  clear HFE HXb HO hE2 hXA hXB hyb
  go_wp2
  go_end0
  exact ⟨rfl, HO3.out, HK3.out, HB3.out⟩

end Go.Proofs.YtbjoblkigbphhaaGreat

namespace Go.Proofs.YtbjoblkigbphhaaGreat
set_option linter.unusedVariables false
open Go.RowKit

set_option maxRecDepth 100000 in
set_option maxHeartbeats 4000000 in
theorem f_moved (g : G) (gv : Value) (N : Nat) (hN1 : (N : Int) ≤ g.n) (hN2 : g.n ≤ (N : Int)) (hk : Gok g) (v : Nat) (hv : v < N) (L : Nat → Int) (hL : ∀ u, u < N → -1000000000000 ≤ L u ∧ L u ≤ 1000000000000) (dv : Value) (bz cz : Nat) (w : World)
    (hg : GrR w gv g) (hd : IntsR w dv (vecOf N L)) (hz : ∀ u, u < N → w.cell? ⟨bz, u, none⟩ = some (.int .i64 (oneAt v 1 u))) (hbz : bz < w.heap.size) :
    Calls Tryz.prog 36 #[gv, dv, .slice (some ⟨bz, 0, none⟩) N cz] w fun e w' => ∃ b c, e = .returned (.slice (some ⟨b, 0, none⟩) N c) ∧ w'.ownsRow w.heap.size 3 1 (.slice (some ⟨b, 0, none⟩) N c) N ((vecOf N (fireL g v L)).map (Value.int .i64)) ∧ Below w.heap.size w w' := by
  have hg' := hg
  obtain ⟨ev, rfl, a, cap, rfl, hcap, hcm, hlen, hc⟩ := hg'
  have hn := hk.n
  have HK := hid hk
  obtain ⟨W1, hW1⟩ : ∃ W : World, W = (w.alloc (.cells #[.int .i64 g.n, .slice a g.es.length cap] 24)).alloc (.cells #[.slice (some ⟨bz, 0, none⟩) N cz] 27) := ⟨_, rfl⟩
  have hB1 : Below w.heap.size w W1 := by rw [hW1]; exact ((Below.refl _ _).alloc (Nat.le_refl _) _).alloc (by simp) _
  have g1 : W1.cell? ⟨w.heap.size, 1, none⟩ = some (.slice a g.es.length cap) := by rw [hW1]; simp
  have z0 : W1.cell? ⟨w.heap.size + 1, 0, none⟩ = some (.slice (some ⟨bz, 0, none⟩) N cz) := by rw [hW1]; simp
  have hs1 : W1.heap.size = w.heap.size + 2 := by rw [hW1]; simp
  have hcl := hid (c_Clone (vecOf N L) dv W1 (hd.below hB1) (by rw [vecOf_len]; omega))
  rw [vecOf_len] at hcl
  have HCE := hid (hc.below hB1)
  have HZ := hid (fun u hu => (hB1.cell (p := ⟨bz, u, none⟩) hbz).trans (hz u hu))
  have HB1 := hid hB1
  have HLb := hid hL
  have hgl := hk.len
  have hEN := hid (fun k (h : k < g.es.length) => hk.ends k h)
  have hEM := hid (fun k (h : k < g.es.length) => hk.mem (x := g.es[k]?.getD default) (by rw [List.getElem?_eq_getElem h]; exact List.getElem_mem h))
  have hmf : ∀ (fn : Fn) (first cap : Array Value) (w : World), (Instr.makeFunc fn first cap).run Tryz.prog w = .ok (.func fn first cap) w := fun _ _ _ _ => rfl
  clear hd hc hz hB1 hL hg hk
  go_enter Tryz.func36, Tryz.ntmps36
  go_wp2_with fail
  rw [← hW1]
  clear hW1
  refine hcl.out.mono ?_
  rintro e W2 ⟨bl, cl, rfl, hO, hB2⟩
  have hbl := owns_lt hO
  obtain ⟨W3, hW3⟩ : ∃ W : World, W = W2.alloc (.cells #[.slice (some ⟨bl, 0, none⟩) N cl] 26) := ⟨_, rfl⟩
  have hB3 : Below W1.heap.size W1 W3 := by rw [hW3]; exact hB2.alloc hB2.size _
  have HO3 : Hid (W3.ownsRow W1.heap.size 3 1 (.slice (some ⟨bl, 0, none⟩) N cl) N ((vecOf N (movTo g v L 0)).map (Value.int .i64))) := by
    rw [vecOf_congr N (movTo g v L 0) L (fun u _ => movTo_zero g v L u), hW3]
    exact hO.alloc _
  have o0 : W3.cell? ⟨W2.heap.size, 0, none⟩ = some (.slice (some ⟨bl, 0, none⟩) N cl) := by rw [hW3]; simp
  have hs2 := hB2.size
  have hs3 : W3.heap.size = W2.heap.size + 1 := by rw [hW3]; simp
  have HB3 := hid hB3
  have g3 := (hB3.cell (p := ⟨w.heap.size, 1, none⟩) (by dsimp only; omega)).trans g1
  have HG3 := hid ((hB3.cell (p := ⟨w.heap.size + 1, 0, none⟩) (by dsimp only; omega)).trans z0)
  have HZ3 := hid (fun u hu => (hB3.cell (p := ⟨bz, u, none⟩) (by dsimp only; omega)).trans (HZ.out u hu))
  have HCE3 := hid (HCE.out.below hB3)
  have hbold : Hid (∀ b' off', a = some ⟨b', off', none⟩ → g.es ≠ [] → b' < W1.heap.size) := fun b' off' e hne => by
    rcases HCE.out with h | ⟨b2, o2, e2, h2, _⟩
    · exfalso; cases hg' : g.es with | nil => exact hne hg' | cons x l => rw [hg'] at h; simp [E.cells] at h
    · rw [e] at e2; injection e2 with e3; injection e3 with e4; omega
  clear hcl hO hB2 hB3 HZ HCE z0 g1
  go_simp
  go_upto_region 3 with fail
  rw [← hW3]
  have HO0 := hid o0
  clear hW3 o0
  go_wp2
  go_loopw [17] (fun i wr => ∃ k : Nat, k ≤ g.es.length ∧ i = .int .i64 k ∧ Hid (wr.ownsRow W1.heap.size 3 1 (.slice (some ⟨bl, 0, none⟩) N cl) N ((vecOf N (movTo g v L k)).map (Value.int .i64))) ∧ Hid (KeptB W3 wr (fun j => j = bl)) ∧ Hid (Below W1.heap.size W1 wr)) (fun i _ => g.es.length - (intOf i).toNat)
  case atStart => exact ⟨0, Nat.zero_le _, rfl, HO3, kept_refl _ _, HB3⟩
  case round =>
    clear HO3 HB3 g3
    obtain ⟨k, hk, rfl, HO, HK', HB⟩ := hrel
    obtain ⟨Wr, rfl⟩ : ∃ W : World, W = wr := ⟨_, rfl⟩
    have hsz := HK'.out.1
    by_cases hlt : k < g.es.length
    · obtain ⟨b', off', rfl, hb', hcc⟩ := HCE3.out.edge (by omega)
      obtain ⟨c1', c2', c3'⟩ := hcc k hlt
      have hbo := hbold.out b' off' rfl (by intro h; rw [h] at hlt; simp at hlt)
      have hbn : b' ≠ bl := by omega
      have c1 := (HK'.out.cell b' _ hb' hbn).trans c1'
      have c2 := (HK'.out.cell b' _ hb' hbn).trans c2'
      have c3 := (HK'.out.cell b' _ hb' hbn).trans c3'
      obtain ⟨m1, m2, m3, m4, m5⟩ := hEM.out k hlt
      have HST : Hid (∀ u, movTo g v L (k + 1) u = movTo g v L k u + fE v u (g.es[k]?.getD default)) := fun u => movTo_step g v L k u hlt
      have hmb := hid (fun u hu => movTo_bd HK.out v L u (HLb.out u hu) k hk)
      have hlt' : (k : Int) < (g.es.length : Int) := by omega
      have hk0 : (0 : Int) ≤ (k : Int) := by omega
      clear hcc c1' c2' c3'
      generalize g.es[k]?.getD default = x at *
      obtain ⟨xa, xb, xm⟩ := x
      dsimp only at c1 c2 c3 m1 m2 m3 m4 m5
      obtain ⟨A, rfl⟩ := Int.eq_ofNat_of_zero_le m1
      obtain ⟨B, rfl⟩ := Int.eq_ofNat_of_zero_le (show 0 ≤ xb by omega)
      obtain ⟨m, rfl⟩ := Int.eq_ofNat_of_zero_le (show 0 ≤ xm by omega)
      have kA : Below Wr.heap.size Wr (Wr.alloc (.cells #[.int .i64 A, .int .i64 B, .int .i64 m] 96)) := (Below.refl _ _).alloc (Nat.le_refl _) _
      have KA := hid kA
      have hbl2 : bl < Wr.heap.size := (owns_lt HO.out).2
      have hal := hid (f_along N A B m (by omega) (by omega) (by omega) v (movTo g v L k) (fun u hu => by have := hmb.out u hu; omega) W1.heap.size (w.heap.size + 1) W2.heap.size bl cl bz cz _
        ((kA.cell (p := ⟨w.heap.size + 1, 0, none⟩) (by dsimp only; omega)).trans ((HK'.out.cell (w.heap.size + 1) 0 (by omega) (by omega)).trans HG3.out))
        ((kA.cell (p := ⟨W2.heap.size, 0, none⟩) (by dsimp only; omega)).trans ((HK'.out.cell W2.heap.size 0 (by omega) (by omega)).trans HO0.out))
        (fun u hu => (kA.cell (p := ⟨bz, u, none⟩) (by dsimp only; omega)).trans ((HK'.out.cell bz u (by omega) (by omega)).trans (HZ3.out u hu)))
        (HO.out.alloc _) (by omega) (by omega) (by omega) (by simp; omega) (by simp; omega) (by simp; omega) (by simp; have := HB.out.size; omega))
      clear hmb kA
      go_wp2_with fail
      refine hal.out.mono ?_
      rintro e W5 ⟨rfl, hO5, hK5, hB5⟩
      have HO5 : Hid (W5.ownsRow W1.heap.size 3 1 (.slice (some ⟨bl, 0, none⟩) N cl) N ((vecOf N (movTo g v L (k + 1))).map (Value.int .i64))) := by
        rw [vecOf_congr N (movTo g v L (k + 1)) _ (fun u _ => HST.out u)]
        exact hO5
      have HK5 := hid (kept_trans (kept_trans HK'.out (kept_below (p := fun _ => False) KA.out) (fun _ h => h.elim)) hK5 (fun _ h => h))
      have HB5 := hid ((HB.out.alloc HB.out.size (.cells #[.int .i64 A, .int .i64 B, .int .i64 m] 96)).trans hB5)
      clear hO5 hK5 hB5 hal HST c1 c2 c3
      go_simp
      go_wp2_with fail
      go_roundw
      case rel => exact ⟨k + 1, by omega, by go_num, HO5, HK5, HB5⟩
      case measure => simp [intOf]; omega
    · have e : k = g.es.length := by omega
      subst e
      have hlt' : ¬ (g.es.length : Int) < (g.es.length : Int) := by omega
      have o1 := (HK'.out.cell W2.heap.size 0 (by omega) (by omega)).trans HO0.out
      have HOE : Hid (Wr.ownsRow w.heap.size 3 1 (.slice (some ⟨bl, 0, none⟩) N cl) N ((vecOf N (fireL g v L)).map (Value.int .i64))) := by
        have h := HO.out
        rw [vecOf_congr N _ (fireL g v L) (fun u _ => movTo_end HK.out v L u)] at h
        exact owns_base h (by omega)
      have HBE := hid (up HB1.out HB.out)
      clear HO HK' HB
      go_wp2
      go_ret
      exact ⟨bl, cl, rfl, HOE.out, HBE.out⟩

end Go.Proofs.YtbjoblkigbphhaaGreat

namespace Go.Proofs.YtbjoblkigbphhaaGreat
set_option linter.unusedVariables false
open Go.RowKit

section
variable {g : G} {ev : Value} {base : Nat} {W0 w w' : World} {b bl cl N : Nat} {L : Nat → Int}
end

end Go.Proofs.YtbjoblkigbphhaaGreat

namespace Go.Proofs.YtbjoblkigbphhaaGreat
set_option linter.unusedVariables false
open Go.RowKit

end Go.Proofs.YtbjoblkigbphhaaGreat

namespace Go.Proofs.YtbjoblkigbphhaaGreat
set_option linter.unusedVariables false
open Go.RowKit

theorem f_bounded1 (k : Int) (hk : inB k = true) (w : World) : Calls Tryz.prog 60 #[.int .i64 k] w fun e w' => e = .returned (.bool false) ∧ w = w' := by
  unfold inB at hk
  simp only [Bool.and_eq_true, decide_eq_true_eq] at hk
  have h1 : ¬ k < -1048576 := by omega
  have h2 : ¬ 1048576 < k := by omega
  clear hk
  go_enter Tryz.func60, Tryz.ntmps60
  go_wp2
  go_ret
  exact ⟨rfl, rfl⟩

set_option maxRecDepth 100000 in
set_option maxHeartbeats 1000000 in
theorem f_boundedI (ds : List Int) (dv : Value) (w : World) (hd : IntsR w dv ds) (hb : ∀ k, k < ds.length → inB (ds[k]?.getD 0) = true) :
    Calls Tryz.prog 84 #[dv, .func (.func 60) #[] #[]] w fun e w' => e = .returned (.int .i64 (-1)) ∧ w = w' := by
  obtain ⟨a, cap, rfl, hcap, hcm, hlen, hc⟩ := hd
  have HB := hid hb
  clear hb
  go_enter Tryz.func84, Tryz.ntmps84
  go_wp2
  go_loop [8] (fun i => ∃ k : Nat, k ≤ ds.length ∧ i = .int .i64 k) (fun i => ds.length - (intOf i).toNat)
  case atStart => exact ⟨0, Nat.zero_le _, rfl⟩
  case round =>
    obtain ⟨k, hkn, rfl⟩ := hrel
    by_cases hlt : k < ds.length
    · have hlt' : (k : Int) < (ds.length : Int) := by omega
      have hk0 : (0 : Int) ≤ (k : Int) := by omega
      obtain ⟨b, off, rfl, hb, hcc⟩ := hc.int (by omega)
      have c1 := hcc k hlt
      have hR := hid (f_bounded1 (ds[k]?.getD 0) (HB.out k hlt) w)
      clear hcc hc
      generalize ds[k]?.getD 0 = x at *
      go_wp2_with (go_at_call 60; refine hR.out.mono ?_; rintro e w1 ⟨rfl, rfl⟩)
      go_round
      case rel => exact ⟨k + 1, by omega, by go_num⟩
      case measure => simp [intOf]; omega
    · have hlt' : ¬ (k : Int) < (ds.length : Int) := by omega
      go_wp2
      go_ret
      exact ⟨rfl, rfl⟩

theorem f_boundedC (ds : List Int) (dv : Value) (w : World) (hd : IntsR w dv ds) (hb : ∀ k, k < ds.length → inB (ds[k]?.getD 0) = true) :
    Calls Tryz.prog 59 #[dv, .func (.func 60) #[] #[]] w fun e w' => e = .returned (.bool false) ∧ w = w' := by
  have hI := hid (f_boundedI ds dv w hd hb)
  clear hd hb
  go_enter Tryz.func59, Tryz.ntmps59
  go_wp2_with (go_at_call 84; refine hI.out.mono ?_; rintro e w1 ⟨rfl, rfl⟩)
  go_ret
  exact ⟨rfl, rfl⟩

theorem f_bounded (ds : List Int) (dv : Value) (w : World) (hd : IntsR w dv ds) (hb : ∀ k, k < ds.length → inB (ds[k]?.getD 0) = true) :
    Calls Tryz.prog 35 #[dv] w fun e w' => e = .returned (.tuple #[dv, .int .i64 0]) ∧ w = w' := by
  have hC := hid (f_boundedC ds dv w hd hb)
  clear hd hb
  have hmf : ∀ (fn : Fn) (first cap : Array Value) (w : World), (Instr.makeFunc fn first cap).run Tryz.prog w = .ok (.func fn first cap) w := fun _ _ _ _ => rfl
  go_enter Tryz.func35, Tryz.ntmps35
  go_wp2_with (go_at_call 59; refine hC.out.mono ?_; rintro e w1 ⟨rfl, rfl⟩)
  go_ret2
  exact ⟨rfl, rfl⟩

set_option maxRecDepth 100000 in
set_option maxHeartbeats 2000000 in
theorem f_given (g : G) (gv : Value) (hk : Gok g) (ds : List Int) (dv : Value) (w : World) (hg : GrR w gv g) (hd : IntsR w dv ds) (he : dErr ds g.n = 0) :
    Calls Tryz.prog 33 #[gv, dv] w fun e w' => e = .returned (.int .i64 0) ∧ Below w.heap.size w w' := by
  have hg' := hg
  obtain ⟨ev, rfl, _⟩ := hg'
  obtain ⟨W1, hW1⟩ : ∃ W : World, W = w.alloc (.cells #[.int .i64 g.n, ev] 24) := ⟨_, rfl⟩
  have kA : Below w.heap.size w W1 := by rw [hW1]; exact (Below.refl _ _).alloc (Nat.le_refl _) _
  have hC := hid (p_Check g _ _ (hg.below kA))
  have HK := hid kA
  have he1 : checkErr g = 0 := hk
  rw [he1] at hC
  have hgn : W1.cell? ⟨w.heap.size, 0, none⟩ = some (.int .i64 g.n) := by rw [hW1]; simp
  have hsz : w.heap.size < W1.heap.size := by rw [hW1]; simp
  have hD := hid (fun w2 (hB : Below W1.heap.size W1 w2) => p_chips ds dv g.n w2 ((hd.below kA).below hB))
  rw [he] at hD
  clear kA hg hk he hd he1
  go_enter Tryz.func33, Tryz.ntmps33
  go_wp2_with fail
  rw [← hW1]
  clear hW1
  refine hC.out.mono ?_
  rintro e w2 ⟨rfl, hB2⟩
  have cg := (hB2.cell (p := ⟨w.heap.size, 0, none⟩) hsz).trans hgn
  have HB2 := hid (up HK.out hB2)
  have hD2 := hid (hD.out w2 hB2)
  clear hC HK hgn hsz hB2 hD
  go_simp
  go_wp2_with fail
  refine hD2.out.mono ?_
  rintro e w3 ⟨rfl, rfl⟩
  go_simp
  go_wp2_with fail
  go_ret
  exact ⟨rfl, HB2.out⟩

end Go.Proofs.YtbjoblkigbphhaaGreat

namespace Go.Proofs.YtbjoblkigbphhaaGreat
set_option linter.unusedVariables false
open Go.RowKit

/-- How often u stands among the first k of ms. -/
def cntTo (ms : List Int) : Nat → Nat → Int
  | 0, _ => 0
  | k + 1, u => cntTo ms k u + if ms[k]?.getD 0 = (u : Int) then 1 else 0
theorem cntTo_bd (ms : List Int) : ∀ k u, 0 ≤ cntTo ms k u ∧ cntTo ms k u ≤ k
  | 0, _ => by simp [cntTo]
  | k + 1, u => by
    have := cntTo_bd ms k u
    unfold cntTo
    split <;> omega

end Go.Proofs.YtbjoblkigbphhaaGreat

namespace Go.Proofs.YtbjoblkigbphhaaGreat
set_option linter.unusedVariables false
open Go.RowKit

/-- The chips after the first k of ms fired. -/
def plTo (g : G) (L : Nat → Int) (ms : List Int) : Nat → Nat → Int
  | 0 => L
  | k + 1 => fireL g (ms[k]?.getD 0).toNat (plTo g L ms k)

end Go.Proofs.YtbjoblkigbphhaaGreat
