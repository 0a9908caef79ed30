/-
  Contract of leastaction's boardOf. Contract of leastaction's Verify at the odometer. Contract of leastaction's Legal.
-/
import Derived.Test.YtbjoblkigbphhaaGreatD1
import Derived.Test.YtbjoblkigbphhaaGreatP35
import Derived.Test.YtbjoblkigbphhaaGreatAb6
import Derived.Test.YtbjoblkigbphhaaGreatP40
import Derived.Test.YtbjoblkigbphhaaGreatQ7
import Derived.Test.YtbjoblkigbphhaaGreatD4
namespace Go.Proofs.YtbjoblkigbphhaaGreat
set_option linter.unusedVariables false
set_option linter.unusedSimpArgs false
open Go.RowKit Go.Shelf

set_option maxHeartbeats 1000000 in
theorem f_Check (g : G) (gv : Value) (hk : Gok g) (ds : List Int) (dv : Value) (w : World) (hg : GrR w gv g) (hd : IntsR w dv ds) (he : dErr ds g.n = 0) :
    Calls Tryz.prog 34 #[gv, dv] w fun e w' => e = .returned (.int .i64 0) ∧ Below w.heap.size w w' := by
  have hg' := hg
  obtain ⟨ev, rfl, _⟩ := hg'
  have hd' := hd
  obtain ⟨da, dc, rfl, _⟩ := hd'
  have kA : Below w.heap.size w (w.alloc (.cells #[.int .i64 g.n, ev] 24)) := (Below.refl _ _).alloc (Nat.le_refl _) _
  have hC := hid (f_given g _ hk ds _ _ (hg.below kA) (hd.below kA) he)
  have HA := hid kA
  clear hg hd he hk kA
  go_enter Tryz.func34, Tryz.ntmps34
  go_wp2_with fail
  refine hC.out.mono ?_
  rintro e w2 ⟨rfl, hB2⟩
  dsimp only
  go_wp2_with fail
  go_ret
  exact ⟨rfl, up HA.out hB2⟩

/-- The part of a script below k. -/
def scTo (s : Nat → Int) (k : Nat) : Nat → Int := fun u => if u < k then s u else 0
theorem scTo_zero (s : Nat → Int) : scTo s 0 = fun _ => 0 := funext fun u => by unfold scTo; simp
theorem scTo_succ (s : Nat → Int) (k : Nat) : scTo s (k + 1) = addT (scTo s k) k (s k) := funext fun u => by
  unfold scTo addT
  by_cases h : u = k
  · subst h; simp
  · by_cases h2 : u < k
    · rw [if_pos (by omega), if_neg h]
      exact (if_pos h2).symm
    · rw [if_neg (by omega), if_neg h]
      exact (if_neg h2).symm
theorem lap_fir (g : G) (N : Nat) (d s : Nat → Int) (k : Nat) (hk : k < N) (u : Nat) : lapD g N d (scTo s (k + 1)) u = firB (fun a u => rowsF g a u) (fun u => valence g u) k (s k) (lapD g N d (scTo s k)) u := by
  rw [scTo_succ, lapD_fire g N d _ k (s k) hk u]
  unfold firB
  split
  · rename_i e; subst e; rfl
  · rfl
theorem lap_bd {g : G} (hg : Gok g) (N : Nat) (d s : Nat → Int) (hd : ∀ u, u < N → -1048576 ≤ d u ∧ d u ≤ 1048576) (hs : ∀ u, u < N → -1048576 ≤ s u ∧ s u ≤ 1048576) : ∀ k, k ≤ N → ∀ u, u < N → -(1048576 * (1 + 700 * (k : Int))) ≤ lapD g N d (scTo s k) u ∧ lapD g N d (scTo s k) u ≤ 1048576 * (1 + 700 * (k : Int))
  | 0, _, u, hu => by
    rw [scTo_zero]
    have := (bal_start g N d).1 u hu
    have e : (⟨d, fun _ => 0⟩ : St).L u = d u := rfl
    rw [e] at this
    have h2 : lapD g N d (fun _ => 0) u = d u := this.symm
    rw [h2]
    have := hd u hu
    omega
  | k + 1, hk, u, hu => by
    have h1 := lap_bd hg N d s hd hs k (by omega) u hu
    rw [lap_fir g N d s k (by omega) u]
    unfold firB
    have hb := hs k (by omega)
    have hv := val_bd hg k
    have hr := rowsF_bd hg k u
    have a1 := Int.mul_le_mul hb.2 hv.2 hv.1 (by omega)
    have a2 := Int.mul_le_mul (show -(s k) ≤ 1048576 by omega) hv.2 hv.1 (by omega)
    have a3 := Int.mul_le_mul hb.2 hr.2 hr.1 (by omega)
    have a4 := Int.mul_le_mul (show -(s k) ≤ 1048576 by omega) hr.2 hr.1 (by omega)
    rw [Int.neg_mul] at a2 a4
    have e : (1048576 : Int) * (1 + 700 * ((k + 1 : Nat) : Int)) = 1048576 * (1 + 700 * (k : Int)) + 1048576 * 700 := by rw [Int.natCast_add]; omega
    rw [e]
    dsimp only
    split <;> omega

set_option maxRecDepth 100000 in
theorem zero_board : Tryz.zeroCells106 = bCells 0 (fun _ _ => 0) (fun _ => 0) (.slice none 0 0) := by kernel_rfl
theorem new_board (q : Int) (left : Value) : (Tryz.zeroCells106.setIfInBounds 0 (.int .i64 q)).setIfInBounds 157 left = bCells q (fun _ _ => 0) (fun _ => 0) left := by
  rw [zero_board, bCells_set 0 _ (fun _ _ => 0) _ (fun _ => 0) _ _ 0 (by omega) (q' := q) (left' := .slice none 0 0) ?h1, bCells_set q _ (fun _ _ => 0) _ (fun _ => 0) _ _ 157 (by omega) (q' := q) (left' := left) ?h2]
  case h1 =>
    intro i hi
    unfold bCell
    by_cases e : i = 0
    · rw [if_pos e, if_pos e]
    · rw [if_neg e, if_neg e, if_neg e]
  case h2 =>
    intro i hi
    unfold bCell
    by_cases e : i = 157
    · subst e; rfl
    · rw [if_neg e]
      by_cases e0 : i = 0
      · rw [if_pos e0, if_pos e0]
      · rw [if_neg e0, if_neg e0]
        by_cases e1 : i < 145
        · rw [if_pos e1, if_pos e1]
        · rw [if_neg e1, if_neg e1, if_pos (by omega), if_pos (by omega)]
set_option maxRecDepth 100000 in
set_option maxHeartbeats 8000000 in
theorem b_of (g : G) (gv : Value) (q : Int) (ds ss : List Int) (dv sv : Value) (w : World) (hg : GrR w gv g) (hd : IntsR w dv ds) (hs : IntsR w sv ss) (hc : cfgErr g q ds = 0) (he : dErr ss g.n = 0) :
    Calls Tryz.prog 29 #[gv, .int .i64 q, dv, sv] w fun e w' => ∃ b bl cl, e = .returned (.tuple #[.pointer (some ⟨b, 0, none⟩), .int .i64 0]) ∧
      Bo w w' b bl cl g.n.toNat q (fun a u => rowsF g a u) (fun u => valence g u) (lapD g g.n.toNat (dOf ds) (dOf ss)) := by
  obtain ⟨hk, hq0, hqn, hdl, hdb, hdn⟩ := cfg_ok hc
  obtain ⟨hn1, hn2⟩ := hk.n
  have hse := dErr_ok he
  have hg' := hg
  obtain ⟨ev0, rfl, _⟩ := hg'
  have hd' := hd
  obtain ⟨da, dc, rfl, _⟩ := hd'
  have hs' := hs
  obtain ⟨sa, sc, rfl, _⟩ := hs'
  have hW : Below w.heap.size w (w.alloc (.cells #[.int .i64 g.n, ev0] 24)) := by go_grown
  obtain ⟨W1, hW1⟩ : ∃ W : World, W = w.alloc (.cells #[.int .i64 g.n, ev0] 24) := ⟨_, rfl⟩
  have HX := hid (Blk.new w #[.int .i64 g.n, ev0] 24)
  rw [← hW1] at HX hW
  have c0 : W1.cell? ⟨w.heap.size, 0, none⟩ = some (.int .i64 g.n) := (HX.out.cell 0).trans rfl
  have c1 : W1.cell? ⟨w.heap.size, 1, none⟩ = some ev0 := (HX.out.cell 1).trans rfl
  have cl := HX.out.lt
  have HW := hid hW
  have HG := hid (hg.below hW)
  have HD := hid (hd.below hW)
  have HS := hid (hs.below hW)
  have HK := hid hk
  have HCK := hid (p_stCheck g _ q ds _ W1 HG.out HD.out)
  rw [hc] at HCK
  have HFC := hid (fun w' (h : Below W1.heap.size W1 w') => f_Check g _ hk ss _ w' (HG.out.below h) (HS.out.below h) he)
  have HEN := hid (fun w' (h : Below W1.heap.size W1 w') => p_Ends g _ w' (HG.out.below h) hk)
  have HCL := hid (fun w' (h : Below W1.heap.size W1 w') => c_Clone ds _ w' (HD.out.below h) (by omega))
  generalize hgn : g.n.toNat = N at *
  have hdl2 : ds.length = N := by omega
  have hsl : ss.length = N := by have := hse.2.2.1; omega
  have HN : Hid (0 < N ∧ N ≤ 12 ∧ (N : Int) = g.n) := by show _ ∧ _; omega
  have HLD := hid hdl2
  have HLS := hid hsl
  have HDB : Hid (∀ u, u < N → -1048576 ≤ dOf ds u ∧ dOf ds u ≤ 1048576) := fun u hu => by
    have := hdb _ (List.getElem_mem (show u < ds.length by omega))
    unfold dOf
    rw [List.getElem?_eq_getElem (by omega), Option.getD_some]
    exact this
  have HSB : Hid (∀ u, u < N → -1048576 ≤ dOf ss u ∧ dOf ss u ≤ 1048576) := fun u hu => by
    have := hse.2.2.2 _ (List.getElem_mem (show u < ss.length by omega))
    unfold dOf
    rw [List.getElem?_eq_getElem (by omega), Option.getD_some]
    exact this
  clear hg hd hs hc he hk hdb hdn hse hW hdl hq0 hqn hdl2 hsl
  go_enter Tryz.func29, Tryz.ntmps29
  go_upto_region 1 with fail
  rw [← hW1]
  clear hW1
  go_wp2_with fail
  refine HCK.out.mono ?_
  rintro e w1 ⟨rfl, hB1⟩
  have HB1 := hid hB1
  clear hB1 HCK c0 c1 cl
  have HX1 := hid (HX.out.below HB1.out)
  have c0 : w1.cell? ⟨w.heap.size, 0, none⟩ = some (.int .i64 g.n) := (HX1.out.cell 0).trans rfl
  have c1 : w1.cell? ⟨w.heap.size, 1, none⟩ = some ev0 := (HX1.out.cell 1).trans rfl
  have cl := HX1.out.lt
  dsimp only
  go_wp2_with fail
  refine (HFC.out _ HB1.out).mono ?_
  rintro e w2 ⟨rfl, hB2⟩
  have HB2 := hid (up HB1.out hB2)
  clear hB2 HFC c0 c1 cl HX1 HB1
  have HX1 := hid (HX.out.below HB2.out)
  have c0 : w2.cell? ⟨w.heap.size, 0, none⟩ = some (.int .i64 g.n) := (HX1.out.cell 0).trans rfl
  have c1 : w2.cell? ⟨w.heap.size, 1, none⟩ = some ev0 := (HX1.out.cell 1).trans rfl
  have cl := HX1.out.lt
  dsimp only
  go_wp2_with fail
  refine (HEN.out _ HB2.out).mono ?_
  rintro e w3 ⟨v, rfl, ho, hB3⟩
  obtain ⟨ae, ce, rfl⟩ := owns_slice ho
  have HB3 := hid (up HB2.out hB3)
  have HE3 := hid ho
  clear hB3 HEN c0 c1 cl HX1 HB2 ho
  dsimp only
  go_wp2_with fail
  refine (HCL.out _ HB3.out).mono ?_
  rintro e w4 ⟨bl, cl, rfl, hown, hB4⟩
  have HB4 := hid (up HB3.out hB4)
  have HE4 := hid (owns_below HE3.out hB4)
  have HO4 := hid hown
  clear hB4 HCL HE3 hown
  dsimp only
  go_upto_region 11 with fail
  rw [new_board]
  rw [HLD.out] at HO4 ⊢
  obtain ⟨W5, hW5⟩ : ∃ W : World, W = w4.alloc (.cells (bCells q (fun _ _ => 0) (fun _ => 0) (.slice (some ⟨bl, 0, none⟩) N cl)) 106) := ⟨_, rfl⟩
  rw [← hW5]
  have HP5 : Hid (Bo W1 W5 w4.heap.size bl cl N q (fun a u => rowTo (g1Of g) a 0 u) (fun u => valTo (g1Of g) 0 u) (dOf ds)) := by
    have hs := HB4.out.size
    have hb := HB3.out.size
    refine Bo.congr (R := fun _ _ => 0) (V := fun _ => 0) (L := dOf ds) ⟨?_, ?_, hs, ⟨by have := HN.out; omega, HN.out.2.1⟩, ?_⟩ (fun i j _ _ => (rowTo_zero _ _ _).symm) (fun u _ => (valTo_zero _ _).symm) (fun _ _ => rfl)
    · rw [hW5]; exact Blk.new _ _ _
    · rw [hW5, vec_dOf HLD.out]; exact (owns_base HO4.out hb).alloc _
    · rw [hW5]; exact HB4.out.alloc hs _
  have HE5 : Hid (W5.ownsRow w2.heap.size 107 2 (.slice ae (endsOf g.es).length ce) (endsOf g.es).length (pairCells (endsOf g.es))) := by rw [hW5]; exact HE4.out.alloc _
  have hen : (endsOf g.es).length ≤ 7200 := by
    have := endsOf_len g.es 50 (fun y hy => by have := HK.out.mem hy; omega)
    have := HK.out.len
    omega
  have HEN := hid hen
  generalize w4.heap.size = b at *
  clear hW5 HO4 HE4 hen
  have l0 := HP5.out.blk.lt
  go_wp2_with fail
  go_loopw [49] (fun i wr => ∃ j : Nat, j ≤ (endsOf g.es).length ∧ i = .int .i64 j ∧ Hid (Bo W1 wr b bl cl N q (fun a u => rowTo (g1Of g) a j u) (fun u => valTo (g1Of g) j u) (dOf ds)) ∧ Hid (wr.ownsRow w2.heap.size 107 2 (.slice ae (endsOf g.es).length ce) (endsOf g.es).length (pairCells (endsOf g.es)))) (fun i _ => (endsOf g.es).length - (intOf i).toNat)
  case atStart => exact ⟨0, Nat.zero_le _, rfl, HP5, HE5⟩
  case round =>
    clear HP5 HE5 l0
    obtain ⟨j, hjn, rfl, HP, HE⟩ := hrel
    obtain ⟨W5, rfl⟩ : ∃ W : World, W = wr := ⟨_, rfl⟩
    by_cases hlt : j < (endsOf g.es).length
    · obtain ⟨be, ce', hbv, _, hbe⟩ := owns_some HE.out (by omega)
      injection hbv with e1 e2 e3
      subst e1 e3
      clear e2
      obtain ⟨A, B, hAB, hA, hB⟩ := ends_mem HK.out j hlt
      have hc1 := HE.out.cellAt (j * 2) (by omega)
      have hc2 := HE.out.cellAt (j * 2 + 1) (by omega)
      obtain ⟨g1, g2⟩ := pairCells_get (endsOf g.es) j hlt
      rw [g1, hAB] at hc1
      rw [g2, hAB] at hc2
      have hat := g1_at g j hlt
      rw [hAB] at hat
      have hlg : j < (g1Of g).es.length := by unfold g1Of; simpa using hlt
      have hsR := hid (fun a u => rowTo_step (g1Of g) a j u hlg)
      have hsV := hid (fun u => valTo_step (g1Of g) j u hlg)
      rw [hat] at hsR hsV
      dsimp only at hc1 hc2 hsR hsV
      have HBD := hid (fun v u => g1_bd g v j u)
      have hjj := HEN.out
      have hlt1 : (j : Int) < ((endsOf g.es).length : Int) := by omega
      have hj0 : (0 : Int) ≤ (j : Int) := by omega
      have hAN : A < N := by have := HN.out; omega
      have hBN : B < N := by have := HN.out; omega
      have hN12 := HN.out.2.1
      have k1 : Below W5.heap.size W5 (W5.alloc (.cells #[.int .i64 A, .int .i64 B] 107)) := (Below.refl _ _).alloc (Nat.le_refl _) _
      have HX := hid (Blk.new W5 #[.int .i64 A, .int .i64 B] 107)
      have HP6 := hid (HP.out.mono k1)
      have HE6 := hid (owns_below HE.out k1)
      clear g1 g2 hAB hat hlg k1
      go_upto_region 14 with fail
      obtain ⟨W6, hW6⟩ : ∃ W : World, W = W5.alloc (.cells #[.int .i64 A, .int .i64 B] 107) := ⟨_, rfl⟩
      rw [← hW6]
      rw [← hW6] at HX HP6 HE6
      clear hW6 HP HE
      have x0 := HX.out.cell 0
      have x1 := HX.out.cell 1
      simp only [List.getElem?_toArray, List.getElem?_cons_zero, List.getElem?_cons_succ] at x0 x1
      let S : World → Prop := fun w' => w'.cell? ⟨W5.heap.size, 0, none⟩ = some (.int .i64 A) ∧ w'.cell? ⟨W5.heap.size, 1, none⟩ = some (.int .i64 B)
      (refine wp_region_text 5 [0,1,2,3,4] S (by kernel_rfl) (by kernel_rfl) (by intro _ _ d _ _ h; cases d <;> exact h) ?hS ?_; rotate_left; simp only [List.map_cons, List.map_nil, List.getD_cons_zero, List.getD_cons_succ, List.drop_succ_cons, List.drop_zero])
      case hS => exact ⟨x0, x1⟩
      (repeat ((refine' wpSeq_take rfl _ (by rfl) ?_ ?_; rotate_left; focus (intro w' hS; (try dsimp only at hS); obtain ⟨s1, s2⟩ := hS; go_simp; (first | done | with_reducible rfl)); (try simp only [Act.put, List.setIfInBounds_toArray, List.set_cons_zero, List.set_cons_succ])); (try simp only [Act.put, List.setIfInBounds_toArray, List.set_cons_zero, List.set_cons_succ])))
      refine wpSeq_nil ?_
      clear S x0 x1 HX
      have HP7 := hid (HP6.out.mono (Below.drew (Below.refl _ _)))
      have HE7 := hid (owns_below HE6.out (Below.drew (Below.refl _ _)))
      clear HP6 HE6
      by_cases hab : A = B
      · subst hab
        have hab1 : ((A : Int) != (A : Int)) = false := by simp
        have HP8 : Hid (Bo W1 W6.drew b bl cl N q (fun a u => rowTo (g1Of g) a (j + 1) u) (fun u => valTo (g1Of g) (j + 1) u) (dOf ds)) := HP7.out.congr (fun i u _ _ => by rw [hsR.out]; unfold rowE; simp) (fun u _ => by rw [hsV.out]; unfold valE; simp) (fun _ _ => rfl)
        clear HP7
        go_wp2_with fail
        go_roundw
        case rel => exact ⟨j + 1, by omega, by go_num, HP8, HE7⟩
        case measure => simp [intOf]; omega
      · have hab1 : ((A : Int) != (B : Int)) = true := by simp; omega
        have hA1 : (A : Int) < 12 := by omega
        have hA0 : (0 : Int) ≤ (A : Int) := by omega
        have hB1 : (B : Int) < 12 := by omega
        have hB0 : (0 : Int) ≤ (B : Int) := by omega
        go_upto_region 16 with fail
        generalize W6.drew = Wa at *
        have r7 := HP7.out.cR A B (by omega) (by omega)
        have f7 := HP7.out.blk.frozen (1 + A * 12 + B)
        have b7 := HP7.out.blk.lt
        have w7 : IntKind.i64.wrap (rowTo (g1Of g) A j B + 1) = rowTo (g1Of g) A j B + 1 := IntWalk.i64_in _ (by have := (HBD.out A B).1; omega)
        have HP8 := hid ((HP7.out.setR A B (by omega) (by omega) (rowTo (g1Of g) A j B + 1)).mono (Below.drew (Below.refl _ _)))
        have HE8 := hid (owns_below (owns_other HE7.out (owns_blk HP7.out.blk HE7.out (by decide) _ rfl) (1 + A * 12 + B) (.int .i64 (rowTo (g1Of g) A j B + 1))) (Below.drew (Below.refl _ _)))
        let S : World → Prop := fun w' => w'.cell? ⟨b, 1 + A * 12 + B, none⟩ = some (.int .i64 (rowTo (g1Of g) A j B))
        (refine wp_region_text 13 [0,1,2,3,4,5,6,7,8,9,10,11,12] S (by kernel_rfl) (by kernel_rfl) (by intro _ _ d _ _ h; cases d <;> exact h) ?hS ?_; rotate_left; simp only [List.map_cons, List.map_nil, List.getD_cons_zero, List.getD_cons_succ, List.drop_succ_cons, List.drop_zero])
        case hS => exact r7
        (repeat ((refine' wpSeq_take rfl _ (by rfl) ?_ ?_; rotate_left; focus (intro w' hS; (try dsimp only at hS); have s1 : w'.cell? ⟨b, 1 + A * 12 + B, none⟩ = some (.int .i64 (rowTo (g1Of g) A j B)) := hS; go_simp; (first | done | with_reducible rfl)); (try simp only [Act.put, List.setIfInBounds_toArray, List.set_cons_zero, List.set_cons_succ])); (try simp only [Act.put, List.setIfInBounds_toArray, List.set_cons_zero, List.set_cons_succ])))
        refine wpSeq_nil ?_
        clear S
        go_upto_region 17 with fail
        generalize (World.setCell Wa ⟨b, 1 + A * 12 + B, none⟩ (.int .i64 (rowTo (g1Of g) A j B + 1))).drew = Wb at *
        clear r7 f7 b7 w7 HP7 HE7
        have r8 := HP8.out.cR B A (by omega) (by omega)
        rw [if_neg (fun h => hab h.1.symm)] at r8
        have f8 := HP8.out.blk.frozen (1 + B * 12 + A)
        have b8 := HP8.out.blk.lt
        have w8 : IntKind.i64.wrap (rowTo (g1Of g) B j A + 1) = rowTo (g1Of g) B j A + 1 := IntWalk.i64_in _ (by have := (HBD.out B A).1; omega)
        have HP9 := hid ((HP8.out.setR B A (by omega) (by omega) (rowTo (g1Of g) B j A + 1)).mono (Below.drew (Below.refl _ _)))
        have HE9 := hid (owns_below (owns_other HE8.out (owns_blk HP8.out.blk HE8.out (by decide) _ rfl) (1 + B * 12 + A) (.int .i64 (rowTo (g1Of g) B j A + 1))) (Below.drew (Below.refl _ _)))
        let S : World → Prop := fun w' => w'.cell? ⟨b, 1 + B * 12 + A, none⟩ = some (.int .i64 (rowTo (g1Of g) B j A))
        (refine wp_region_text 13 [0,1,2,3,4,5,6,7,8,9,10,11,12] S (by kernel_rfl) (by kernel_rfl) (by intro _ _ d _ _ h; cases d <;> exact h) ?hS ?_; rotate_left; simp only [List.map_cons, List.map_nil, List.getD_cons_zero, List.getD_cons_succ, List.drop_succ_cons, List.drop_zero])
        case hS => exact r8
        (repeat ((refine' wpSeq_take rfl _ (by rfl) ?_ ?_; rotate_left; focus (intro w' hS; (try dsimp only at hS); have s1 : w'.cell? ⟨b, 1 + B * 12 + A, none⟩ = some (.int .i64 (rowTo (g1Of g) B j A)) := hS; go_simp; (first | done | with_reducible rfl)); (try simp only [Act.put, List.setIfInBounds_toArray, List.set_cons_zero, List.set_cons_succ])); (try simp only [Act.put, List.setIfInBounds_toArray, List.set_cons_zero, List.set_cons_succ])))
        refine wpSeq_nil ?_
        clear S
        go_upto_region 18 with fail
        generalize (World.setCell Wb ⟨b, 1 + B * 12 + A, none⟩ (.int .i64 (rowTo (g1Of g) B j A + 1))).drew = Wc at *
        clear r8 f8 b8 w8 HP8 HE8
        have r9 := HP9.out.cV A (by omega)
        have f9 := HP9.out.blk.frozen (145 + A)
        have b9 := HP9.out.blk.lt
        have w9 : IntKind.i64.wrap (valTo (g1Of g) j A + 1) = valTo (g1Of g) j A + 1 := IntWalk.i64_in _ (by have := (HBD.out 0 A).2; omega)
        have HP10 := hid ((HP9.out.setV A (by omega) (valTo (g1Of g) j A + 1)).mono (Below.drew (Below.refl _ _)))
        have HE10 := hid (owns_below (owns_other HE9.out (owns_blk HP9.out.blk HE9.out (by decide) _ rfl) (145 + A) (.int .i64 (valTo (g1Of g) j A + 1))) (Below.drew (Below.refl _ _)))
        let S : World → Prop := fun w' => w'.cell? ⟨b, 145 + A, none⟩ = some (.int .i64 (valTo (g1Of g) j A))
        (refine wp_region_text 10 [0,1,2,3,4,5,6,7,8,9] S (by kernel_rfl) (by kernel_rfl) (by intro _ _ d _ _ h; cases d <;> exact h) ?hS ?_; rotate_left; simp only [List.map_cons, List.map_nil, List.getD_cons_zero, List.getD_cons_succ, List.drop_succ_cons, List.drop_zero])
        case hS => exact r9
        (repeat ((refine' wpSeq_take rfl _ (by rfl) ?_ ?_; rotate_left; focus (intro w' hS; (try dsimp only at hS); have s1 : w'.cell? ⟨b, 145 + A, none⟩ = some (.int .i64 (valTo (g1Of g) j A)) := hS; go_simp; (first | done | with_reducible rfl)); (try simp only [Act.put, List.setIfInBounds_toArray, List.set_cons_zero, List.set_cons_succ])); (try simp only [Act.put, List.setIfInBounds_toArray, List.set_cons_zero, List.set_cons_succ])))
        refine wpSeq_nil ?_
        clear S
        go_upto_region 19 with fail
        generalize (World.setCell Wc ⟨b, 145 + A, none⟩ (.int .i64 (valTo (g1Of g) j A + 1))).drew = Wd at *
        clear r9 f9 b9 w9 HP9 HE9
        have r10 := HP10.out.cV B (by omega)
        rw [if_neg (fun h => hab h.symm)] at r10
        have f10 := HP10.out.blk.frozen (145 + B)
        have b10 := HP10.out.blk.lt
        have w10 : IntKind.i64.wrap (valTo (g1Of g) j B + 1) = valTo (g1Of g) j B + 1 := IntWalk.i64_in _ (by have := (HBD.out 0 B).2; omega)
        have HP11 := hid ((HP10.out.setV B (by omega) (valTo (g1Of g) j B + 1)).mono (Below.drew (Below.refl _ _)))
        have HE11 := hid (owns_below (owns_other HE10.out (owns_blk HP10.out.blk HE10.out (by decide) _ rfl) (145 + B) (.int .i64 (valTo (g1Of g) j B + 1))) (Below.drew (Below.refl _ _)))
        let S : World → Prop := fun w' => w'.cell? ⟨b, 145 + B, none⟩ = some (.int .i64 (valTo (g1Of g) j B))
        (refine wp_region_text 10 [0,1,2,3,4,5,6,7,8,9] S (by kernel_rfl) (by kernel_rfl) (by intro _ _ d _ _ h; cases d <;> exact h) ?hS ?_; rotate_left; simp only [List.map_cons, List.map_nil, List.getD_cons_zero, List.getD_cons_succ, List.drop_succ_cons, List.drop_zero])
        case hS => exact r10
        (repeat ((refine' wpSeq_take rfl _ (by rfl) ?_ ?_; rotate_left; focus (intro w' hS; (try dsimp only at hS); have s1 : w'.cell? ⟨b, 145 + B, none⟩ = some (.int .i64 (valTo (g1Of g) j B)) := hS; go_simp; (first | done | with_reducible rfl)); (try simp only [Act.put, List.setIfInBounds_toArray, List.set_cons_zero, List.set_cons_succ])); (try simp only [Act.put, List.setIfInBounds_toArray, List.set_cons_zero, List.set_cons_succ])))
        refine wpSeq_nil ?_
        clear S
        go_upto_region 20 with fail
        generalize (World.setCell Wd ⟨b, 145 + B, none⟩ (.int .i64 (valTo (g1Of g) j B + 1))).drew = We at *
        clear r10 f10 b10 w10 HP10 HE10
        have HP12 : Hid (Bo W1 We b bl cl N q (fun a u => rowTo (g1Of g) a (j + 1) u) (fun u => valTo (g1Of g) (j + 1) u) (dOf ds)) := by
          refine HP11.out.congr (fun i u _ _ => ?_) (fun u _ => ?_) (fun _ _ => rfl)
          · rw [hsR.out]
            unfold rowE
            have hab' : ¬ (A : Int) = (B : Int) := by omega
            rw [if_neg hab']
            dsimp only
            by_cases h1 : i = A
            · subst h1
              by_cases h2 : u = B
              · subst h2; simp; omega
              · have h3 : ¬ (B : Int) = (u : Int) := by omega
                have h4 : ¬ i = B := hab
                simp [h2, h3, h4]
            · have h3 : ¬ (A : Int) = (i : Int) := by omega
              by_cases h4 : i = B
              · subst h4
                by_cases h5 : u = A
                · subst h5; simp [h3]
                · have h6 : ¬ (A : Int) = (u : Int) := by omega
                  simp [h1, h3, h5, h6]
              · have h5 : ¬ (B : Int) = (i : Int) := by omega
                simp [h1, h3, h4, h5]
          · rw [hsV.out]
            unfold valE
            have hab' : ¬ (A : Int) = (B : Int) := by omega
            rw [if_neg hab']
            dsimp only
            by_cases h1 : u = B
            · subst h1
              have h2 : ¬ u = A := fun h => hab h.symm
              simp [hab']
            · have h2 : ¬ (B : Int) = (u : Int) := by omega
              by_cases h3 : u = A
              · subst h3; simp [h1, h2]
              · have h4 : ¬ (A : Int) = (u : Int) := by omega
                simp [h1, h2, h3, h4]
        clear HP11 hsR hsV HBD
        go_wp2_with fail
        go_roundw
        case rel => exact ⟨j + 1, by omega, by go_num, HP12, HE11⟩
        case measure => simp [intOf]; omega
    · have hlt1 : ¬ (j : Int) < ((endsOf g.es).length : Int) := by omega
      have HPE : Hid (Bo W1 W5 b bl cl N q (fun a u => rowsF g a u) (fun u => valence g u) (lapD g N (dOf ds) (scTo (dOf ss) 0))) := by
        have e : j = (endsOf g.es).length := by omega
        have h := HP.out
        rw [e] at h
        refine h.congr (fun i u _ _ => g1_row HK.out i u) (fun u _ => g1_val HK.out u) (fun u hu => ?_)
        rw [scTo_zero]
        exact (bal_start g N (dOf ds)).1 u hu
      have l0 := HPE.out.blk.lt
      clear HP HE
      have HSL : Hid (IntsR W1 (.slice sa ss.length sc) ss) := HS
      go_wp2_with fail
      go_loopw [109] (fun i wr => ∃ k : Nat, k ≤ N ∧ i = .int .i64 k ∧ Hid (Bo W1 wr b bl cl N q (fun a u => rowsF g a u) (fun u => valence g u) (lapD g N (dOf ds) (scTo (dOf ss) k)))) (fun i _ => N - (intOf i).toNat)
      case atStart => exact ⟨0, Nat.zero_le _, rfl, HPE⟩
      case round =>
        clear HPE l0
        obtain ⟨k, hk, rfl, HP⟩ := hrel
        obtain ⟨W6, rfl⟩ : ∃ W : World, W = wr := ⟨_, rfl⟩
        have hls := HLS.out
        by_cases hkN : k < N
        · obtain ⟨a1, c1', e1, _, _, _, hcs⟩ := HSL.out.below HP.out.below
          obtain ⟨rfl, rfl⟩ : sa = a1 ∧ sc = c1' := by simpa using e1
          obtain ⟨ba, off, rfl, hba, hx⟩ := hcs.int (by omega)
          have x1 := hx k (by omega)
          have hN12 := HN.out.2.1
          have hkl : (k : Int) < (ss.length : Int) := by omega
          have hk0 : (0 : Int) ≤ (k : Int) := by omega
          have wk : IntKind.i64.wrap ((k : Int) + 1) = (k : Int) + 1 := IntWalk.i64_in _ (by omega)
          have hsb := HSB.out k hkN
          have hfr := hid (b_fire HP.out k hkN (dOf ss k) hsb (fun u hu => by have := lap_bd HK.out N (dOf ds) (dOf ss) HDB.out HSB.out k (by omega) u hu; omega) (by have := val_bd HK.out k; omega) (fun u => by have := rowsF_bd HK.out k u; omega))
          have HNX : Hid (∀ u, u < N → firB (fun a u => rowsF g a u) (fun u => valence g u) k (dOf ss k) (lapD g N (dOf ds) (scTo (dOf ss) k)) u = lapD g N (dOf ds) (scTo (dOf ss) (k + 1)) u) := fun u _ => (lap_fir g N (dOf ds) (dOf ss) k hkN u).symm
          have exd : ss[k]?.getD 0 = dOf ss k := rfl
          rw [exd] at x1
          generalize dOf ss k = sk at *
          clear hx e1 hsb hls exd
          go_wp2_with fail
          refine hfr.out.mono ?_
          rintro e w7 ⟨rfl, hP7, _⟩
          have HP7 := hid (hP7.congr (fun _ _ _ _ => rfl) (fun _ _ => rfl) HNX.out)
          clear hP7 HNX hfr
          dsimp only
          go_wp2_with fail
          go_roundw
          case rel => exact ⟨k + 1, by omega, by go_num, HP7⟩
          case measure => simp [intOf]; omega
        · obtain rfl : k = N := by omega
          have HPF : Hid (Bo w W6 b bl cl k q (fun a u => rowsF g a u) (fun u => valence g u) (lapD g k (dOf ds) (dOf ss))) := by
            refine (HP.out.base HW.out).congr (fun _ _ _ _ => rfl) (fun _ _ => rfl) (fun u hu => ?_)
            unfold lapD
            have e : sumTo (fun v => scTo (dOf ss) k v * rowsF g v u) k = sumTo (fun v => dOf ss v * rowsF g v u) k := sumTo_congr _ _ _ fun v hv => by unfold scTo; rw [if_pos hv]
            rw [e]
            unfold scTo
            rw [if_pos hu]
          go_wp2_with fail
          go_ret2
          exact ⟨_, _, _, rfl, HPF.out⟩

end Go.Proofs.YtbjoblkigbphhaaGreat

namespace Go.Proofs.YtbjoblkigbphhaaGreat
set_option linter.unusedVariables false
set_option linter.unusedSimpArgs false
open Go.RowKit Go.Shelf

theorem dErr_mkV {N : Nat} {L : Nat → Int} {n : Int} (hn : n = N) (hN : 0 < N ∧ N ≤ 12) (h : ∀ u, u < N → -1048576 ≤ L u ∧ L u ≤ 1048576) : dErr (vecOf N L) n = 0 := by
  subst hn
  unfold dErr
  rw [vecOf_len, if_neg (by omega), if_neg (by simp), if_pos]
  refine List.all_eq_true.2 fun k hk => ?_
  unfold vecOf at hk
  obtain ⟨u, hu, rfl⟩ := List.mem_map.1 hk
  have := h u (List.mem_range.1 hu)
  unfold inB
  simp
  omega
theorem least_sink {g : G} (hg : Gok g) {q N : Nat} {d : Nat → Int} {T : Nat → Int} (hq : q < N) (hs : Stz g q N d T) (hl : ∀ τ, Stz g q N d τ → ∀ u, u < N → T u ≤ τ u) : T q = 0 := by
  have hτ : Stz g q N d (fun u => if u = q then 0 else T u) := by
    refine ⟨fun v hv hne => ?_, fun u hu => by have := hs.2 u hu; dsimp only; split <;> omega⟩
    have h1 := hs.1 v hv hne
    have hvq : v ≠ q := fun e => hne (by rw [e])
    have h2 : sumTo (fun u => (if u = q then 0 else T u) * rowsF g u v) N ≤ sumTo (fun u => T u * rowsF g u v) N := sumTo_le _ _ N fun k hk => by
      have := hs.2 k hk
      have hr := (rowsF_bd hg k v).1
      split
      · have := Int.mul_nonneg this hr; omega
      · exact Int.le_refl _
    unfold lapD at h1 ⊢
    dsimp only
    rw [if_neg hvq]
    omega
  have h1 := hl _ hτ q hq
  have h2 := hs.2 q hq
  simp at h1
  omega
theorem sum_each {f : Nat → Int} : ∀ {n : Nat}, (∀ u, u < n → 0 ≤ f u) → ∀ k, k < n → f k ≤ sumTo f n
  | 0, _, k, hk => by omega
  | n + 1, h, k, hk => by
    have h0 : ∀ m, m ≤ n → 0 ≤ sumTo f m := fun m hm => by
      have := sumTo_le (fun _ => (0 : Int)) f m (fun u hu => h u (by omega))
      rw [sumTo_zero] at this
      exact this
    have e : sumTo f (n + 1) = sumTo f n + f n := rfl
    have hn := h n (by omega)
    by_cases hkn : k = n
    · subst hkn; have := h0 k (by omega); omega
    · have := sum_each (n := n) (fun u hu => h u (by omega)) k (by omega)
      omega

/-- What is known of an odometer. -/
structure Odo (g : G) (q : Int) (ds : List Int) (r : St) : Prop where
  hc : cfgErr g q ds = 0
  bal : Bal g g.n.toNat (dOf ds) r
  stz : Stz g q g.n.toNat (dOf ds) r.T
  least : ∀ τ, Stz g q g.n.toNat (dOf ds) τ → ∀ u, u < g.n.toNat → r.T u ≤ τ u
  sum : sumTo r.T g.n.toNat ≤ maxF
theorem Odo.t {g : G} {q : Int} {ds : List Int} {r : St} (h : Odo g q ds r) : ∀ u, u < g.n.toNat → 0 ≤ r.T u ∧ r.T u ≤ 1048576 := fun u hu => by
  have := sum_each h.stz.2 u hu
  have hs := h.sum
  rw [maxF_eq] at hs
  have := h.stz.2 u hu
  omega
theorem lapD_vec (g : G) (N : Nat) (d T : Nat → Int) (u : Nat) (hu : u < N) : lapD g N d (dOf (vecOf N T)) u = lapD g N d T u := by
  unfold lapD
  have e : sumTo (fun v => dOf (vecOf N T) v * rowsF g v u) N = sumTo (fun v => T v * rowsF g v u) N := sumTo_congr _ _ _ fun v hv => by
    have : dOf (vecOf N T) v = T v := vecOf_get _ _ _ hv
    rw [this]
  have e2 : dOf (vecOf N T) u = T u := vecOf_get _ _ _ hu
  rw [e, e2]

set_option maxRecDepth 100000 in
set_option maxHeartbeats 2000000 in
theorem b_settled (g : G) (gv : Value) (q : Int) (ds : List Int) (dv sv : Value) (r : St) (w : World) (hg : GrR w gv g) (hd : IntsR w dv ds) (hs : IntsR w sv (vecOf g.n.toNat r.T)) (ho : Odo g q ds r) :
    Calls Tryz.prog 68 #[gv, .int .i64 q, dv, sv] w fun e w' => ∃ b bl cl, e = .returned (.tuple #[.pointer (some ⟨b, 0, none⟩), .int .i64 0]) ∧
      Bo w w' b bl cl g.n.toNat q (fun a u => rowsF g a u) (fun u => valence g u) r.L := by
  obtain ⟨hk, hq0, hqn, hdl, hdb, hdn⟩ := cfg_ok ho.hc
  obtain ⟨hn1, hn2⟩ := hk.n
  obtain ⟨Q, rfl⟩ := Int.eq_ofNat_of_zero_le hq0
  have hg' := hg
  obtain ⟨ev0, rfl, _⟩ := hg'
  have hd' := hd
  obtain ⟨da, dc, rfl, _⟩ := hd'
  have hs' := hs
  obtain ⟨sa, sc, rfl, _⟩ := hs'
  have hW : Below w.heap.size w (w.alloc (.cells #[.int .i64 g.n, ev0] 24)) := by go_grown
  have HB := hid (b_of g _ Q ds (vecOf g.n.toNat r.T) _ _ _ (hg.below hW) (hd.below hW) (hs.below hW) ho.hc (dErr_mkV (N := g.n.toNat) (by omega) (by omega) (fun u hu => by have := ho.t u hu; omega)))
  have HT : Hid (∀ v, v < g.n.toNat → 0 ≤ r.T v ∧ ((v : Int) = (Q : Int) → r.T v = 0) ∧ unsB Q (fun u => valence g u) r.L v = false) := fun v hv => by
    refine ⟨ho.stz.2 v hv, fun e => ?_, ?_⟩
    · obtain rfl : v = Q := by omega
      exact least_sink hk hv ho.stz ho.least
    · by_cases e : (v : Int) = (Q : Int)
      · unfold unsB; simp [e]
      · have := ho.stz.1 v hv e
        rw [← ho.bal.1 v hv] at this
        unfold unsB
        simp
        exact fun _ => this
  have HL : Hid (∀ u, u < g.n.toNat → lapD g g.n.toNat (dOf ds) (dOf (vecOf g.n.toNat r.T)) u = r.L u) := fun u hu => by
    rw [lapD_vec g _ _ _ u hu, ← ho.bal.1 u hu]
  have HS := hid (hs.below hW)
  have HW := hid hW
  have hl := vecOf_len g.n.toNat r.T
  rw [hl] at HB HS ⊢
  generalize g.n.toNat = N at *
  clear hg hd hs ho hk hdb hdn hW hl hdl hq0 hqn
  go_enter Tryz.func68, Tryz.ntmps68
  go_wp2_with fail
  refine HB.out.mono ?_
  rintro e w1 ⟨b, bl, cl, rfl, hP⟩
  have HP := hid (hP.congr (fun _ _ _ _ => rfl) (fun _ _ => rfl) HL.out)
  have HS1 := hid (HS.out.below hP.below)
  clear hP HB
  dsimp only
  go_wp2_with fail
  refine (b_stabil HP.out r.T _ HS1.out HT.out).mono ?_
  rintro e w2 ⟨rfl, hB2⟩
  have HP2 := hid ((HP.out.mono hB2).base HW.out)
  clear hB2 HP HS1
  dsimp only
  go_wp2_with fail
  go_ret2
  exact ⟨_, _, _, rfl, HP2.out⟩

theorem insB_insOf (g : G) (I : Nat → Bool) (N v : Nat) (hN : N ≤ 12) (h : ∀ u, I u = true → u < N) : insB (fun a u => rowsF g a u) I v 12 = insOf g I v N := by
  have e : ∀ k, insB (fun a u => rowsF g a u) I v (N + k) = insOf g I v N := fun k => by
    induction k with
    | zero => rfl
    | succ k ih =>
      have e1 : insB (fun a u => rowsF g a u) I v (N + (k + 1)) = insB (fun a u => rowsF g a u) I v (N + k) + if I (N + k) then rowsF g v (N + k) else 0 := rfl
      rw [e1, ih, if_neg (fun h1 => by have := h _ h1; omega)]
      omega
  have := e (12 - N)
  rwa [show N + (12 - N) = 12 by omega] at this

set_option maxRecDepth 100000 in
set_option maxHeartbeats 2000000 in
theorem b_Witness (g : G) (gv : Value) (q : Int) (ds : List Int) (dv sv : Value) (r : St) (w : World) (hg : GrR w gv g) (hd : IntsR w dv ds) (hs : IntsR w sv (vecOf g.n.toNat r.T)) (ho : Odo g q ds r) :
    Calls Tryz.prog 45 #[gv, .int .i64 q, dv, sv] w fun e w' => e = .returned (.tuple #[.slice none 0 0, .int .i64 0]) ∧ Below w.heap.size w w' := by
  obtain ⟨hk, hq0, hqn, hdl, hdb, hdn⟩ := cfg_ok ho.hc
  obtain ⟨hn1, hn2⟩ := hk.n
  have hg' := hg
  obtain ⟨ev0, rfl, _⟩ := hg'
  have hd' := hd
  obtain ⟨da, dc, rfl, _⟩ := hd'
  have hs' := hs
  obtain ⟨sa, sc, rfl, _⟩ := hs'
  have hW : Below w.heap.size w (w.alloc (.cells #[.int .i64 g.n, ev0] 24)) := by go_grown
  have HB := hid (b_settled g _ q ds _ _ r _ (hg.below hW) (hd.below hW) (hs.below hW) ho)
  have HG : Hid (∀ I, Grt g.n.toNat r.T r.L (fun a u => rowsF g a u) I → setA I = setA fun _ => false) := fun I hI => by
    have h1 := cert_law hk ho.bal ho.stz ho.least (I := I) (fun v hv hIv => ⟨(hI.lt v hIv).2, by have := hI.ins v hv hIv; rwa [insB_insOf g I g.n.toNat v (by omega) (fun u hu => (hI.lt u hu).1)] at this⟩)
    have h2 : ∀ v, I v = false := fun v => by
      by_cases hv : v < g.n.toNat
      · exact h1 v hv
      · cases hIv : I v
        · rfl
        · exact absurd (hI.lt v hIv).1 hv
    rw [show I = fun _ => false from funext h2]
  have HR : Hid (∀ v u : Nat, 0 ≤ rowsF g v u ∧ rowsF g v u ≤ 100000) := fun v u => by have := rowsF_bd hk v u; omega
  have HS := hid (hs.below hW)
  have HW := hid hW
  have hl := vecOf_len g.n.toNat r.T
  rw [hl] at HB HS ⊢
  generalize g.n.toNat = N at *
  clear hg hd hs ho hk hdb hdn hW hl hdl hq0 hqn
  go_enter Tryz.func45, Tryz.ntmps45
  go_wp2_with fail
  refine HB.out.mono ?_
  rintro e w1 ⟨b, bl, cl, rfl, hP⟩
  have HP := hid hP
  have HS1 := hid (HS.out.below hP.below)
  clear hP HB
  dsimp only
  go_wp2_with fail
  refine (b_greatest HP.out r.T _ HS1.out HR.out).mono ?_
  rintro e w2 ⟨I, rfl, hI, hB2⟩
  have hIA := HG.out I hI
  rw [hIA]
  have HB2 := hid (up HW.out (up HP.out.below hB2))
  clear hB2 hI hIA HP HS1 HS HG
  dsimp only
  go_wp2_with fail
  refine (c_members _ _).mono ?_
  rintro e w3 ⟨Br, rfl, hb, hB3⟩
  have HBr := hid hb
  have HB3 := hid (up HB2.out hB3)
  clear hb hB3 HB2
  dsimp only
  go_wp2_with fail
  refine (c_CollectNone _ _ HBr.out).mono ?_
  rintro e w4 ⟨rfl, hB4⟩
  dsimp only
  go_wp2_with fail
  go_ret2
  exact ⟨rfl, up HB3.out hB4⟩

set_option maxRecDepth 100000 in
set_option maxHeartbeats 1000000 in
/-- Verifying the odometer. -/
theorem b_Verify (g : G) (gv : Value) (q : Int) (ds : List Int) (dv sv : Value) (r : St) (w : World) (hg : GrR w gv g) (hd : IntsR w dv ds) (hs : IntsR w sv (vecOf g.n.toNat r.T)) (ho : Odo g q ds r) :
    Calls Tryz.prog 16 #[gv, .int .i64 q, dv, sv] w fun e w' => e = .returned (.int .i64 0) ∧ Below w.heap.size w w' := by
  have hg' := hg
  obtain ⟨ev0, rfl, _⟩ := hg'
  have hd' := hd
  obtain ⟨da, dc, rfl, _⟩ := hd'
  have hs' := hs
  obtain ⟨sa, sc, rfl, _⟩ := hs'
  have hW : Below w.heap.size w (w.alloc (.cells #[.int .i64 g.n, ev0] 24)) := by go_grown
  have HB := hid (b_Witness g _ q ds _ _ r _ (hg.below hW) (hd.below hW) (hs.below hW) ho)
  have HW := hid hW
  have hl := vecOf_len g.n.toNat r.T
  rw [hl] at HB ⊢
  clear hg hd hs ho hW hl
  go_enter Tryz.func16, Tryz.ntmps16
  go_wp2_with fail
  refine HB.out.mono ?_
  rintro e w1 ⟨rfl, hB1⟩
  dsimp only
  go_wp2_with fail
  go_ret
  exact ⟨rfl, up HW.out hB1⟩

end Go.Proofs.YtbjoblkigbphhaaGreat

namespace Go.Proofs.YtbjoblkigbphhaaGreat
set_option linter.unusedVariables false
set_option linter.unusedSimpArgs false
open Go.RowKit Go.Shelf

theorem Bo.offSet {W0 w : World} {b bl cl N : Nat} {q : Int} {R : Nat → Nat → Int} {V L : Nat → Int} (h : Bo W0 w b bl cl N q R V L) (k : Nat) (h1 : b ≠ k) (h2 : bl ≠ k) (h3 : W0.heap.size ≤ k) (o : Nat) (v : Value) : Bo W0 (w.setCell ⟨k, o, none⟩ v) b bl cl N q R V L :=
  ⟨h.blk.other h1 _ _, owns_other h.left h2 _ _, h.hb, h.n, h.below.setCell (by exact h3) _⟩
theorem Bo.grown {W0 w w' : World} {b bl cl N : Nat} {q : Int} {R : Nat → Nat → Int} {V L : Nat → Int} (h : Bo W0 w b bl cl N q R V L) {row : Option Nat} (hg : w.grownBy w' row) (hr : ∀ k, row = some k → k ≠ b ∧ k ≠ bl ∧ W0.heap.size ≤ k) : Bo W0 w' b bl cl N q R V L :=
  ⟨h.blk.grown hg (fun e => (hr _ e).1 rfl), h.left.kept hg (.inr (fun e => (hr _ e.symm).2.1 rfl)), h.hb, h.n, h.below.grown hg h.below.size (fun k e => (hr k e).2.2)⟩

/-- What holds between two firings. -/
structure LgI (W0 Wb W3 wr : World) (b bl cl rb cr N : Nat) (q : Int) (g : G) (d S L T : Nat → Int) (v : Value) (xs : List Int) : Prop where
  bo : Bo W0 wr b bl cl N q (fun a u => rowsF g a u) (fun u => valence g u) L
  rest : wr.ownsRow Wb.heap.size 3 1 (.slice (some ⟨rb, 0, none⟩) N cr) N ((vecOf N fun u => S u - T u).map (Value.int .i64))
  out : wr.ownsRow W3.heap.size 3 1 v xs.length (xs.map (Value.int .i64))
  leg : Leg g q N d L T
  le : ∀ u, u < N → T u ≤ S u
  sum : (xs.length : Int) = sumTo T N
  lay : b < Wb.heap.size ∧ bl < Wb.heap.size ∧ Wb.heap.size ≤ rb ∧ rb < W3.heap.size ∧ W0.heap.size ≤ Wb.heap.size ∧ Wb.heap.size ≤ W3.heap.size
  sz : W3.heap.size ≤ wr.heap.size
section
variable {W0 Wb W3 wr w' : World} {b bl cl rb cr N : Nat} {q : Int} {g : G} {d S L T : Nat → Int} {v : Value} {xs : List Int}
theorem LgI.mono (h : LgI W0 Wb W3 wr b bl cl rb cr N q g d S L T v xs) (hB : Below wr.heap.size wr w') : LgI W0 Wb W3 w' b bl cl rb cr N q g d S L T v xs :=
  ⟨h.bo.mono hB, owns_below h.rest hB, owns_below h.out hB, h.leg, h.le, h.sum, h.lay, Nat.le_trans h.sz hB.size⟩
theorem firB_fireK (g : G) (v : Nat) (k : Int) (L T : Nat → Int) : firB (fun a u => rowsF g a u) (fun u => valence g u) v k L = (fireK g v k ⟨L, T⟩).L := rfl
/-- A vertex has fired; what is left to fire is noted. -/
theorem LgI.fire (h : LgI W0 Wb W3 wr b bl cl rb cr N q g d S L T v xs) {w1 : World} {u : Nat} (hu : u < N) (hun : unsB q (fun u => valence g u) L u = true) (hlt : T u < S u)
    (hb : Bo W0 w1 b bl cl N q (fun a u => rowsF g a u) (fun u => valence g u) (firB (fun a u => rowsF g a u) (fun u => valence g u) u 1 L)) (hk : KeptB wr w1 (fun j => j = bl)) :
    w1.ownsRow Wb.heap.size 3 1 (.slice (some ⟨rb, 0, none⟩) N cr) N ((vecOf N fun u => S u - T u).map (Value.int .i64)) ∧
    (∀ x : Int, x = S u - T u - 1 → Bo W0 (w1.setCell ⟨rb, u, none⟩ (.int .i64 x)) b bl cl N q (fun a u => rowsF g a u) (fun u => valence g u) (fireK g u 1 ⟨L, T⟩).L ∧
      (w1.setCell ⟨rb, u, none⟩ (.int .i64 x)).ownsRow Wb.heap.size 3 1 (.slice (some ⟨rb, 0, none⟩) N cr) N ((vecOf N fun j => S j - (fireK g u 1 ⟨L, T⟩).T j).map (Value.int .i64)) ∧
      (w1.setCell ⟨rb, u, none⟩ (.int .i64 x)).ownsRow W3.heap.size 3 1 v xs.length (xs.map (Value.int .i64)) ∧ W3.heap.size ≤ (w1.setCell ⟨rb, u, none⟩ (.int .i64 x)).heap.size) ∧
    Leg g q N d (fireK g u 1 ⟨L, T⟩).L (fireK g u 1 ⟨L, T⟩).T ∧ (∀ j, j < N → (fireK g u 1 ⟨L, T⟩).T j ≤ S j) ∧ sumTo (fireK g u 1 ⟨L, T⟩).T N = sumTo T N + 1 := by
  obtain ⟨y1, y2, y3, y4, y5, y6⟩ := h.lay
  have hr := owns_keptB h.rest hk (fun k e => by have : rb = k := Option.some.inj e; omega)
  have ho := owns_keptB h.out hk (fun k e => by have := (h.out.lt k e).1; omega)
  unfold unsB at hun
  simp only [Bool.and_eq_true, decide_eq_true_eq] at hun
  refine ⟨hr, fun x hx => ⟨?_, ?_, ?_, ?_⟩, h.leg.fire u hu hun.1 hun.2, fun j hj => ?_, ?_⟩
  · exact hb.offSet rb (by omega) (by omega) (by omega) _ _
  · have h2 := owns_set (f := Value.int .i64) hr u x
    rw [vecOf_set] at h2
    rwa [vecOf_congr N _ (fun j => S j - (fireK g u 1 ⟨L, T⟩).T j) (fun j hj => by
      show (if j = u then x else S j - T j) = S j - addT T u 1 j
      unfold addT
      split
      · rename_i e; subst e; omega
      · rfl)] at h2
  · refine ho.kept (grown_set w1 rb u _) (.inr fun e => ?_)
    have := (ho.lt rb e).1
    omega
  · have := hk.1
    have := h.sz
    simp
    omega
  · have := h.le j hj
    show addT T u 1 j ≤ S j
    unfold addT
    split
    · rename_i e; subst e; omega
    · exact this
  · exact sum_fire g ⟨L, T⟩ hu 1
/-- .. and it is listed. -/
theorem LgI.listed {L' T' : Nat → Int} (h : LgI W0 Wb W3 wr b bl cl rb cr N q g d S L T v xs) {w2 w3 : World} (h1 : Bo W0 w2 b bl cl N q (fun a u => rowsF g a u) (fun u => valence g u) L')
    (h2 : w2.ownsRow Wb.heap.size 3 1 (.slice (some ⟨rb, 0, none⟩) N cr) N ((vecOf N fun j => S j - T' j).map (Value.int .i64))) (h3 : W3.heap.size ≤ w2.heap.size) (h4 : Leg g q N d L' T') (h5 : ∀ j, j < N → T' j ≤ S j) (h6 : sumTo T' N = sumTo T N + 1)
    {v' : Value} {x : Int} (ho : w3.ownsRow W3.heap.size 3 1 v' (xs ++ [x]).length ((xs ++ [x]).map (Value.int .i64))) (hg : w2.grownBy w3 v.ownBlock) (hv : ∀ k, v.ownBlock = some k → W3.heap.size ≤ k) :
    LgI W0 Wb W3 w3 b bl cl rb cr N q g d S L' T' v' (xs ++ [x]) := by
  obtain ⟨y1, y2, y3, y4, y5, y6⟩ := h.lay
  refine ⟨h1.grown hg (fun k e => by have := hv k e; omega), h2.kept hg (.inr fun e => ?_), ho, h4, h5, by rw [List.length_append, h6]; have := h.sum; simp; omega, h.lay, Nat.le_trans h3 hg.size⟩
  have := hv rb e.symm
  omega
end

set_option maxRecDepth 100000 in
set_option maxHeartbeats 2000000 in
theorem c_CloneS (ds : List Int) (dv : Value) (w : World) (hd : IntsR w dv ds) (h0 : 0 < ds.length) :
    Calls Tryz.prog 30 #[dv] w fun e w' => ∃ b c, e = .returned (.slice (some ⟨b, 0, none⟩) ds.length c) ∧
      w'.ownsRow w.heap.size 3 1 (.slice (some ⟨b, 0, none⟩) ds.length c) ds.length (ds.map (Value.int .i64)) ∧ Below w.heap.size w w' := by
  obtain ⟨a, cap, rfl, hcap, hcm, hlen, hc⟩ := hd
  obtain ⟨b, off, rfl, hb, hcs⟩ := hc.int h0
  have HC := hid hc
  have qT : ∀ (w : World) (a : Option Addr) (n c n' c' : Nat), (binOp .eql 27 (.slice a n c) (.slice none n' c')).run Tryz.prog w = .ok (.bool a.isNone) w := fun w a n c n' c' => Lib.run_eql_slice_nil w 27 3 a n c n' c' Tryz.underScript
  clear hcs hc
  go_enter Tryz.func30, Tryz.ntmps30
  go_wp2_with (at_builtin; go_loud (refine wpList_clone w rfl _ _ 27 rfl 3 Tryz.underScript Tryz.infoInt w.heap.size rfl b off cap ds HC.out hlen rfl rfl ?_); intro v' w1 hown hB1 _)
  obtain ⟨b1, c1, rfl, _⟩ := owns_some hown h0
  go_wp2
  go_ret
  exact ⟨b1, c1, rfl, hown, hB1⟩

theorem sum_eq_le {S T : Nat → Int} : ∀ {n : Nat}, (∀ u, u < n → T u ≤ S u) → sumTo S n ≤ sumTo T n → ∀ u, u < n → T u = S u
  | 0, _, _, u, hu => by omega
  | n + 1, h, hs, u, hu => by
    have e1 : sumTo S (n + 1) = sumTo S n + S n := rfl
    have e2 : sumTo T (n + 1) = sumTo T n + T n := rfl
    have h1 := sumTo_le T S n fun k hk => h k (by omega)
    have h2 := h n (by omega)
    by_cases e : u = n
    · subst e; omega
    · exact sum_eq_le (n := n) (fun k hk => h k (by omega)) (by omega) u (by omega)

/-- What Legal hands back. -/
def RetLg (g : G) (q : Int) (N : Nat) (ds ss : List Int) (w : World) (e : Ending) (w' : World) : Prop :=
  Below w.heap.size w w' ∧ ∃ v ok k, e = .returned (.tuple #[v, .bool ok, .int .i64 k]) ∧ (k = 0 → ok = true → ∃ L T, Leg g q N (dOf ds) L T ∧ ∀ u, u < N → T u = dOf ss u)

set_option maxRecDepth 100000 in
set_option maxHeartbeats 8000000 in
theorem b_Legal (g : G) (gv : Value) (q : Int) (ds ss : List Int) (dv sv : Value) (w : World) (hg : GrR w gv g) (hd : IntsR w dv ds) (hs : IntsR w sv ss) (hc : cfgErr g q ds = 0) (hsm : small17 ds = true) (he : dErr ss g.n = 0) (hss : small17 ss = true) :
    Calls Tryz.prog 11 #[gv, .int .i64 q, dv, sv] w (RetLg g q g.n.toNat ds ss w) := by
  obtain ⟨Q, hp⟩ := pil_ok hc hsm
  obtain ⟨hk, hq0, hqn, hdl, hdb, hdn⟩ := cfg_ok hc
  obtain ⟨hn1, hn2⟩ := hk.n
  have hse := dErr_ok he
  have hg' := hg
  obtain ⟨ev0, rfl, _⟩ := hg'
  have hd' := hd
  obtain ⟨da, dc, rfl, _⟩ := hd'
  have hs' := hs
  obtain ⟨sa, sc, rfl, _⟩ := hs'
  have hW : Below w.heap.size w (w.alloc (.cells #[.int .i64 g.n, ev0] 24)) := by go_grown
  obtain ⟨W1, hW1⟩ : ∃ W : World, W = w.alloc (.cells #[.int .i64 g.n, ev0] 24) := ⟨_, rfl⟩
  have HX := hid (Blk.new w #[.int .i64 g.n, ev0] 24)
  rw [← hW1] at HX hW
  have c0 : W1.cell? ⟨w.heap.size, 0, none⟩ = some (.int .i64 g.n) := (HX.out.cell 0).trans rfl
  have c1 : W1.cell? ⟨w.heap.size, 1, none⟩ = some ev0 := (HX.out.cell 1).trans rfl
  have cl := HX.out.lt
  have HW := hid hW
  have HG := hid (hg.below hW)
  have HD := hid (hd.below hW)
  have HS := hid (hs.below hW)
  have HK := hid hk
  have HP := hid hp
  have HOF := hid (b_of g _ q ds ss _ _ W1 HG.out HD.out HS.out hc he)
  have HOZ := hid (fun (w' : World) (h : Below W1.heap.size W1 w') (zv : Value) (hz : IntsR w' zv (vecOf g.n.toNat fun _ => 0)) => b_of g _ q ds _ _ zv w' (HG.out.below h) (HD.out.below h) hz hc (by
    unfold dErr
    rw [vecOf_len, if_neg (by omega), if_neg (by omega), if_pos]
    refine List.all_eq_true.2 fun k hk => ?_
    unfold vecOf at hk
    obtain ⟨u, _, rfl⟩ := List.mem_map.1 hk
    decide))
  have HLB := hid (fun (L T : Nat → Int) (h : Leg g q g.n.toNat (dOf ds) L T) => h.bd hp)
  have HSB : Hid (∀ u, u < g.n.toNat → -60 ≤ dOf ss u ∧ dOf ss u ≤ 60) := fun u hu => by
    have hu' : u < ss.length := by have := hse.2.2.1; omega
    unfold small17 at hss
    have := List.all_eq_true.1 hss _ (List.getElem_mem hu')
    simp at this
    unfold dOf
    rw [List.getElem?_eq_getElem hu']
    exact this
  have HCL := hid (fun w' (h : Below W1.heap.size W1 w') => c_CloneS ss _ w' (HS.out.below h) (by have := hse.2.2.1; omega))
  have HDZ : Hid (∀ u, u < g.n.toNat → lapD g g.n.toNat (dOf ds) (dOf (vecOf g.n.toNat fun _ => 0)) u = dOf ds u) := fun u hu => by
    rw [lapD_vec g _ _ _ u hu]
    exact ((bal_start g g.n.toNat (dOf ds)).1 u hu).symm
  generalize hgn : g.n.toNat = N at *
  have hsl : ss.length = N := by have := hse.2.2.1; omega
  have HN : Hid (0 < N ∧ N ≤ 12 ∧ (N : Int) = g.n) := by show _ ∧ _; omega
  have HLS := hid hsl
  clear hg hd hs hc he hk hdb hdn hse hW hdl hq0 hqn hsl hp hss hsm
  go_enter Tryz.func11, Tryz.ntmps11
  go_upto_region 1 with fail
  rw [← hW1]
  clear hW1
  go_wp2_with fail
  refine HOF.out.mono ?_
  rintro e w1 ⟨_, _, _, rfl, hb⟩
  have HB1 := hid hb.below
  clear hb HOF c0 c1 cl
  dsimp only
  go_wp2_with fail
  go_loopw [13, 34] (fun tv iv wr => ∃ k : Nat, k ≤ N ∧ iv = .int .i64 k ∧ tv = .int .i64 (sumTo (dOf ss) k) ∧ wr = w1 ∧ Hid (∀ u, u < k → 0 ≤ dOf ss u)) (fun _ iv _ => N - (intOf iv).toNat)
  case atStart => exact ⟨0, Nat.zero_le _, rfl, rfl, rfl, fun u hu => by omega⟩
  case round =>
    obtain ⟨k, hk, rfl, rfl, rfl, HNN⟩ := hrel
    obtain ⟨w2, rfl⟩ : ∃ W : World, W = wr := ⟨_, rfl⟩
    have hls := HLS.out
    have hN12 := HN.out.2.1
    by_cases hkN : k < N
    · obtain ⟨a1, c1', e1, _, _, _, hcs⟩ := HS.out.below HB1.out
      obtain ⟨rfl, rfl⟩ : sa = a1 ∧ sc = c1' := by simpa using e1
      obtain ⟨ba, off, rfl, hba, hx⟩ := hcs.int (by omega)
      have x1 := hx k (by omega)
      have hkl : (k : Int) < (ss.length : Int) := by omega
      have hk0 : (0 : Int) ≤ (k : Int) := by omega
      have wk : IntKind.i64.wrap ((k : Int) + 1) = (k : Int) + 1 := IntWalk.i64_in _ (by omega)
      have hsb := HSB.out k hkN
      have htb : -60 * (k : Int) ≤ sumTo (dOf ss) k ∧ sumTo (dOf ss) k ≤ k * 60 := by
        refine ⟨?_, sumTo_up _ 60 k fun u hu => (HSB.out u (by omega)).2⟩
        have := sumTo_up (fun u => -(dOf ss u)) 60 k fun u hu => by have := HSB.out u (by omega); omega
        have e : sumTo (fun u => -(dOf ss u)) k = -(sumTo (dOf ss) k) := by
          have := sumTo_mul (-1) (dOf ss) k
          rw [show (fun u => -1 * dOf ss u) = (fun u => -(dOf ss u)) from funext fun u => by omega] at this
          omega
        omega
      have HSU : Hid (sumTo (dOf ss) (k + 1) = sumTo (dOf ss) k + dOf ss k) := rfl
      have HNE : Hid (0 ≤ dOf ss k → ∀ u, u < k + 1 → 0 ≤ dOf ss u) := fun h u hu => by
        by_cases e : u = k
        · subst e; exact h
        · exact HNN.out u (by omega)
      have exd : ss[k]?.getD 0 = dOf ss k := rfl
      rw [exd] at x1
      generalize sumTo (dOf ss) k = tt at *
      generalize dOf ss k = sk at *
      have wt : IntKind.i64.wrap (tt + sk) = tt + sk := IntWalk.i64_in _ (by omega)
      clear hx e1 hsb hls exd htb
      have HBf : Hid (Below w.heap.size w w2) := up HW.out HB1.out
      by_cases hneg : sk < 0
      · go_wp2_with fail
        go_ret3
        exact ⟨HBf.out, _, _, _, rfl, fun h => by cases h⟩
      · have hnn := HNE.out (by omega)
        have HNN2 := hid hnn
        clear hnn HNE HNN
        by_cases hq : (k : Int) = q
        · have hqb : ((k : Int) == q) = true := by simpa using hq
          by_cases hz : sk = 0
          · subst hz
            have wt0 : IntKind.i64.wrap tt = tt := by have := wt; rwa [Int.add_zero] at this
            rw [Int.add_zero] at HSU
            clear hq wt
            go_wp2_with fail
            go_roundw
            case rel => exact ⟨k + 1, by omega, by go_num, by rw [HSU.out], trivial, HNN2⟩
            case measure => simp [intOf]; omega
          · have hzb : (sk != 0) = true := by simpa using hz
            clear hq
            go_wp2_with fail
            go_ret3
            exact ⟨HBf.out, _, _, _, rfl, fun h => by cases h⟩
        · have hqb : ((k : Int) == q) = false := by simpa using hq
          clear hq
          go_wp2_with fail
          go_roundw
          case rel => exact ⟨k + 1, by omega, by go_num, by rw [HSU.out], trivial, HNN2⟩
          case measure => simp [intOf]; omega
    · obtain rfl : k = N := by omega
      have htb : -60 * (k : Int) ≤ sumTo (dOf ss) k ∧ sumTo (dOf ss) k ≤ k * 60 := by
        refine ⟨?_, sumTo_up _ 60 k fun u hu => (HSB.out u (by omega)).2⟩
        have := sumTo_le (fun _ => (0 : Int)) (dOf ss) k (fun u hu => HNN.out u hu)
        rw [sumTo_zero] at this
        omega
      have HTS : Hid (sumTo (dOf ss) k = sumTo (dOf ss) k) := rfl
      have hmk := run_zer (P := Tryz.prog) 27 3 Tryz.underScript Tryz.infoInt g.n k (by have := HN.out; omega) (by have := HN.out; omega) (by omega)
      have HX1 := hid (HX.out.below HB1.out)
      have c0 : w2.cell? ⟨w.heap.size, 0, none⟩ = some (.int .i64 g.n) := (HX1.out.cell 0).trans rfl
      have c1 : w2.cell? ⟨w.heap.size, 1, none⟩ = some ev0 := (HX1.out.cell 1).trans rfl
      have HCC : Hid (∀ W', Below w2.heap.size w2 W' → W'.cell? ⟨w.heap.size, 0, none⟩ = some (.int .i64 g.n) ∧ W'.cell? ⟨w.heap.size, 1, none⟩ = some ev0) := fun W' h => ⟨((HX1.out.below h).cell 0).trans rfl, ((HX1.out.below h).cell 1).trans rfl⟩
      have cl := HX1.out.lt
      generalize htt : sumTo (dOf ss) k = tt at *
      have HTT := hid htt
      clear htt HTS
      let S : World → Prop := fun w' => w'.cell? ⟨w.heap.size, 0, none⟩ = some (.int .i64 g.n) ∧ w'.cell? ⟨w.heap.size, 1, none⟩ = some ev0
      go_wp2_with fail
      (refine wp_region_text 11 [0,1,2,3,4,5,6,7,8,9,10] S (by kernel_rfl) (by kernel_rfl) (by intro _ _ d _ _ h; cases d <;> exact h) ?hS ?_; rotate_left; simp only [List.map_cons, List.map_nil, List.getD_cons_zero, List.getD_cons_succ, List.drop_succ_cons, List.drop_zero])
      case hS => exact ⟨c0, c1⟩
      (repeat ((refine' wpSeq_take rfl _ (by rfl) ?_ ?_; rotate_left; focus (intro w' hS; (try dsimp only at hS); obtain ⟨s1, s2⟩ := hS; go_simp; (first | done | with_reducible rfl)); (try simp only [Act.put, List.setIfInBounds_toArray, List.set_cons_zero, List.set_cons_succ])); (try simp only [Act.put, List.setIfInBounds_toArray, List.set_cons_zero, List.set_cons_succ])))
      have k1 : Below w2.heap.size w2 (w2.drew.alloc (.cells (zer k) 3)) := (Below.refl _ _).drew.alloc (Nat.le_refl _) _
      have hzo : (w2.drew.alloc (.cells (zer k) 3)).ownsRow w2.heap.size 3 1 (.slice (some ⟨w2.heap.size, 0, none⟩) k k) k ((vecOf k fun _ => 0).map (Value.int .i64)) := owns_zer _ (Blk.new w2.drew (zer k) 3) (Nat.le_refl _) (by omega)
      have HZI := hid (owns_intsN hzo (vecOf_len _ _) (by omega))
      have HK1 := hid k1
      refine wpSeq_call rfl (by rfl) (fun K hK => ?_)
      go_simp
      refine hK _ _ (HCC.out _ HK1.out) ?_
      clear hK K hzo k1
      refine wpSeq_call rfl (by rfl) (fun K hK => ?_)
      go_simp
      refine (HOZ.out _ (up HB1.out HK1.out) _ HZI.out).mono ?_
      rintro e w4 ⟨b, bl, bc, rfl, hP⟩
      have HB4 := hid (HK1.out.trans (hP.below.mono HK1.out.size))
      have HP4 := hid ((hP.congr (fun _ _ _ _ => rfl) (fun _ _ => rfl) HDZ.out).base (up HB1.out HK1.out))
      refine hK _ _ (HCC.out _ HB4.out) ?_
      clear hK K hP HZI HK1 HOZ HDZ
      (repeat ((refine' wpSeq_take rfl _ (by rfl) ?_ ?_; rotate_left; focus (intro w' hS; (try dsimp only at hS); obtain ⟨s1, s2⟩ := hS; go_simp; (first | done | with_reducible rfl)); (try simp only [Act.put, List.setIfInBounds_toArray, List.set_cons_zero, List.set_cons_succ])); (try simp only [Act.put, List.setIfInBounds_toArray, List.set_cons_zero, List.set_cons_succ])))
      refine wpSeq_nil ?_
      clear S
      have HB5 := hid (up HB1.out HB4.out)
      have HCC4 : Hid (∀ W', Below w4.heap.size w4 W' → W'.cell? ⟨w.heap.size, 0, none⟩ = some (.int .i64 g.n) ∧ W'.cell? ⟨w.heap.size, 1, none⟩ = some ev0) := fun W' h => HCC.out W' (up HB4.out h)
      have hcl := hid (HCL.out w4 HB5.out)
      rw [HLS.out] at hcl
      have hls2 := HLS.out
      clear hmk c0 c1 cl HX1 HCC HB4 HCL
      go_wp2_with fail
      refine hcl.out.mono ?_
      rintro e w5 ⟨rb, rc, rfl, hown, hB⟩
      have hrl := owns_lt hown
      have hbl := HP4.out.blk.lt
      have hll := (owns_lt HP4.out.left).2
      have HI0 : Hid (LgI W1 w4 w5 w5 b bl bc rb rc k q g (dOf ds) (dOf ss) (dOf ds) (fun _ => 0) (.slice none 0 0) []) := by
        refine ⟨HP4.out.mono hB, ?_, World.ownsRow_nil _ _ _ _, Leg.start, fun u hu => HNN.out u hu, by simp [sumTo_zero], ⟨hbl, hll, hrl.1, hrl.2, HB5.out.size, hB.size⟩, Nat.le_refl _⟩
        rw [vecOf_congr k _ (dOf ss) (fun u _ => by omega), vec_dOf HLS.out]
        exact hown
      have HCC5 : Hid (∀ W', Below w5.heap.size w5 W' → W'.cell? ⟨w.heap.size, 0, none⟩ = some (.int .i64 g.n) ∧ W'.cell? ⟨w.heap.size, 1, none⟩ = some ev0) := fun W' h => HCC4.out W' (up hB h)
      have HLW : Hid (w.heap.size < w5.heap.size) := by
        have h1 := HX.out.lt
        have h2 := HB5.out.size
        have h3 := hB.size
        show _ < _
        omega
      have HB6 := hid (up HB5.out hB)
      clear hown hB hrl hbl hll HP4 hcl HCC4 HB5
      dsimp only
      go_wp2_with fail
      go_loopg [19] 721 (fun kk v wr => ∃ L T xs, Hid (LgI W1 w4 w5 wr b bl bc rb rc k q g (dOf ds) (dOf ss) L T v xs) ∧ Hid (tt - (xs.length : Int) < (kk : Int)) ∧ Hid (Below W1.heap.size W1 wr))
      case atStart => exact ⟨_, _, [], HI0, by show _ < _; simp; omega, HB6⟩
      case round =>
        clear HI0 HB6
        obtain ⟨L, T, xs, HI, HM, HBr⟩ := hrel
        obtain ⟨W6, rfl⟩ : ∃ W : World, W = wr := ⟨_, rfl⟩
        obtain ⟨va, vc, rfl⟩ := owns_slice HI.out.out
        have hlw := HLW.out
        have hsz := HI.out.sz
        have hsm := HI.out.sum
        have hxl : (xs.length : Int) ≤ tt := by
          have := sumTo_le T (dOf ss) k HI.out.le
          have := HTT.out
          omega
        by_cases hlt : (xs.length : Int) < tt
        · clear hsm
          go_wp2_with fail
          go_loopw [20] (fun iv wr => ∃ v : Nat, v ≤ k ∧ iv = .int .i64 v ∧ Hid (Below W6.heap.size W6 wr)) (fun iv _ => k - (intOf iv).toNat)
          case atStart => exact ⟨0, Nat.zero_le _, rfl, Below.refl _ _⟩
          case round =>
            obtain ⟨v, hv, rfl, HB7⟩ := hrel
            obtain ⟨W7, rfl⟩ : ∃ W : World, W = wr := ⟨_, rfl⟩
            have HI7 := hid (HI.out.mono HB7.out)
            have HGC : Hid (W7.cell? ⟨w.heap.size, 0, none⟩ = some (.int .i64 g.n)) := ((HX.out.below (up HBr.out HB7.out)).cell 0).trans rfl
            have c0 := HGC.out
            have cl : w.heap.size < W7.heap.size := by have := HB7.out.size; omega
            by_cases hvk : v < k
            · have hv1 : (v : Int) < g.n := by have := HN.out; omega
              have hvN : (v : Int) < (k : Int) := by omega
              have hv0 : (0 : Int) ≤ (v : Int) := by omega
              have hvn : ((v : Int) == g.n) = false := by have : ¬ (v : Int) = g.n := by omega
                                                          simpa using this
              have wv : IntKind.i64.wrap ((v : Int) + 1) = (v : Int) + 1 := IntWalk.i64_in _ (by omega)
              have cz := owns_int HI7.out.rest v hvk
              rw [vecOf_get _ _ _ hvk] at cz
              have lz := (owns_lt HI7.out.rest).2
              have hTS := HI7.out.le v hvk
              have hT0 := HI7.out.leg.bal.2 v hvk
              dsimp only at hT0
              have hsb := HSB.out v hvk
              have HUN := hid (b_unst HI7.out.bo v hvk)
              have HX0 : Hid (dOf ss v - T v = dOf ss v - T v) := rfl
              by_cases hz : dOf ss v - T v = 0
              · rw [hz] at cz
                clear hz hTS hT0 hsb HX0
                go_wp2_with fail
                go_roundw
                case rel => exact ⟨v + 1, by omega, by go_num, HB7⟩
                case measure => simp [intOf]; omega
              · have hzb : (dOf ss v - T v == 0) = false := by simpa using hz
                cases hun : unsB q (fun u => valence g u) L v with
                | false =>
                  rw [hun] at HUN
                  generalize dOf ss v - T v = z at *
                  clear hz hTS hT0 hsb HX0 hun
                  go_wp2_with fail
                  refine HUN.out.mono ?_
                  rintro e w8 ⟨rfl, hB8⟩
                  have HB8 := hid (up HB7.out hB8)
                  clear hB8
                  dsimp only
                  go_wp2_with fail
                  go_roundw
                  case rel => exact ⟨v + 1, by omega, by go_num, HB8⟩
                  case measure => simp [intOf]; omega
                | true =>
                  rw [hun] at HUN
                  have HLT : Hid (T v < dOf ss v) := by show _ < _; omega
                  have HZ : Hid (∃ z, z = dOf ss v - T v ∧ -60 ≤ z ∧ z ≤ 60) := ⟨_, rfl, by omega, by omega⟩
                  obtain ⟨z, hze, hz1, hz2⟩ := HZ.out
                  have HZE := hid hze
                  rw [← hze] at cz hzb
                  have wz : IntKind.i64.wrap (z - 1) = z - 1 := IntWalk.i64_in _ (by omega)
                  have HUU := hid hun
                  clear hz hTS hT0 hsb HX0 hun HZ hze
                  go_wp2_with fail
                  refine HUN.out.mono ?_
                  rintro e w8 ⟨rfl, hB8⟩
                  have HI8 := hid (HI7.out.mono hB8)
                  have HB8 := hid (up HB7.out hB8)
                  have c0 : w8.cell? ⟨w.heap.size, 0, none⟩ = some (.int .i64 g.n) := (hB8.cell (p := ⟨w.heap.size, 0, none⟩) cl).trans HGC.out
                  have cl8 : w.heap.size < w8.heap.size := Nat.lt_of_lt_of_le cl hB8.size
                  have HFR := hid (b_fire HI8.out.bo v hvk 1 (by omega) (fun u hu => by have := HLB.out L T HI8.out.leg u hu; omega) (by have := val_bd HK.out v; omega) (fun u => by have := rowsF_bd HK.out v u; omega))
                  clear hB8 cz lz HI7 HUN
                  dsimp only
                  go_wp2_with fail
                  refine HFR.out.mono ?_
                  rintro e w9 ⟨rfl, hbo, hkb⟩
                  obtain ⟨hr9, hst, hleg, hle, hsu⟩ := HI8.out.fire hvk HUU.out HLT.out hbo hkb
                  obtain ⟨h1, h2, h3, h4⟩ := hst (z - 1) (by have := HZE.out; omega)
                  have H1 := hid h1
                  have H2 := hid h2
                  have H3 := hid h3
                  have H4 := hid h4
                  have HLEG := hid hleg
                  have HLE := hid hle
                  have HSU := hid hsu
                  have HBB : Hid (W1.heap.size ≤ (w9.setCell ⟨rb, v, none⟩ (.int .i64 (z - 1))).heap.size) := by
                    have := h1.below.size
                    exact this
                  have cz := owns_int hr9 v hvk
                  rw [vecOf_get _ _ _ hvk, ← HZE.out] at cz
                  have lz := (owns_lt hr9).2
                  have fz := hr9.frozenAt v
                  clear hbo hkb hst h1 h2 h3 h4 hleg hle hsu HFR hr9
                  dsimp only
                  have hxs : xs.length ≤ 1000000000000 := by omega
                  go_upto_region 27 with fail
                  generalize w9.setCell ⟨rb, v, none⟩ (.int .i64 (z - 1)) = Wz at *
                  have hbs := H4.out
                  go_wp2_with (at_builtin; refine wpList_app1 Wz rfl _ _ 25 rfl 3 Tryz.underInts Tryz.infoInt w5.heap.size _ xs H3.out v Wz.heap.size rfl rfl rfl hxs hbs ?_; intro v' wa hown2 hgr2 hbk; have HNX := hid (HI8.out.listed H1.out H2.out H4.out HLEG.out HLE.out HSU.out hown2 hgr2 hbk); clear hown2 hgr2 hbk)
                  go_roundg (gk - 1)
                  case measure => have := HM.out; omega
                  case rel => exact ⟨_, _, _, HNX, by have := HM.out; show _ < _; rw [List.length_append]; simp; omega, HNX.out.bo.below⟩
            · obtain rfl : v = k := by omega
              have hvn : ((v : Int) == g.n) = true := by have := HN.out; simp; omega
              have hnl : ¬ (v : Int) < g.n := by have := HN.out; omega
              have HBf := hid (up HW.out (up HBr.out HB7.out))
              go_wp2_with fail
              go_ret3
              exact ⟨HBf.out, _, _, _, rfl, fun _ h => by cases h⟩
        · have hfin := sum_eq_le HI.out.le (by have := HTT.out; omega)
          have HFI := hid hfin
          have HBf := hid (up HW.out HBr.out)
          clear hfin hsm
          go_wp2_with fail
          go_ret3
          exact ⟨HBf.out, _, _, _, rfl, fun _ _ => ⟨L, T, HI.out.leg, HFI.out⟩⟩

end Go.Proofs.YtbjoblkigbphhaaGreat
