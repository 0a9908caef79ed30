/-
  The reference's texts: digits, times, limited, edges, Graph; FewGraph.
-/
import Derived.Test.YtemmepgfngkgmaaGreatDoorN28
import Derived.Test.YtemmepgfngkgmaaGreatDoorR08
namespace Go.Proofs.YtemmepgfngkgmaaGreatDoor
open Go.RowKit
set_option linter.unusedVariables false
set_option linter.unusedSimpArgs false

theorem dig_case {n : Nat} (h : n < 10) : n = 0 ∨ n = 1 ∨ n = 2 ∨ n = 3 ∨ n = 4 ∨ n = 5 ∨ n = 6 ∨ n = 7 ∨ n = 8 ∨ n = 9 := by omega
theorem dec_step {n : Nat} (h : ¬ n < 10) : Lib.decDigits n = Lib.decDigits (n / 10) ++ Lib.decDigits (n % 10) := by
  conv => lhs; rw [Lib.decDigits, dif_neg h]
  rw [Lib.decDigits_one (show n % 10 < 10 by omega)]
theorem str2m (a : List UInt8) : ({ data := #[45] } : ByteArray) ++ str a = str (45 :: a) := str2b a 45
set_option maxRecDepth 100000 in
set_option maxHeartbeats 1000000 in
theorem r_digit (n : Nat) (h : n < 10) (w : World) : Calls Tryz.prog 63 #[.int .i64 n] w fun e w' => e = .returned (.string (str (Lib.decDigits n))) ∧ w = w' := by
  rcases dig_case h with rfl | rfl | rfl | rfl | rfl | rfl | rfl | rfl | rfl | rfl <;>
  · go_enter Tryz.func63, Tryz.ntmps63
    go_wp2_with fail
    go_ret
    exact ⟨by kernel_rfl, rfl⟩
set_option maxRecDepth 100000 in
set_option maxHeartbeats 1000000 in
theorem r_digitsN : ∀ (k n : Nat), n ≤ k → n ≤ 1000000000000 → ∀ w : World, Calls Tryz.prog 63 #[.int .i64 n] w fun e w' => e = .returned (.string (str (Lib.decDigits n))) ∧ w = w'
  | 0, n, h, _, w => r_digit n (by omega) w
  | k + 1, n, h, hb, w => by
    by_cases h10 : n < 10
    · exact r_digit n h10 w
    · have h1 := hid (fun w => r_digitsN k (n / 10) (by omega) (by omega) w)
      have h2 := hid (fun w => r_digit (n % 10) (by omega) w)
      obtain ⟨Z, HZ⟩ : ∃ Z, Hid (Z = Lib.decDigits n) := ⟨_, rfl⟩
      rw [← HZ.out]
      have HS := hid (dec_step h10)
      have z1 := str_size (Lib.decDigits (n / 10))
      have z2 := str_size (Lib.decDigits (n % 10))
      have l1 := Lib.decDigits_length (n / 10)
      have l2 := Lib.decDigits_length (n % 10)
      have l3 := nDig_le 20 (n / 10) (by omega) (by decide)
      have l4 := nDig_le 20 (n % 10) (by omega) (by decide)
      have hI : ¬ (n : Int) < 10 := by omega
      have hI0 : ¬ (n : Int) < 0 := by omega
      go_enter Tryz.func63, Tryz.ntmps63
      go_wp2_with fail
      refine (h1.out w).mono ?_
      rintro e w1 ⟨rfl, rfl⟩
      dsimp only
      go_wp2_with fail
      refine (h2.out _).mono ?_
      rintro e w2 ⟨rfl, rfl⟩
      dsimp only
      go_wp2_with fail
      go_ret
      rw [str_app, HZ.out, HS.out]
      exact ⟨rfl, rfl⟩
theorem r_dig (n : Int) (h0 : -1000000000000 ≤ n) (h1 : n ≤ 1000000000000) (w : World) : Calls Tryz.prog 63 #[.int .i64 n] w fun e w' => e = .returned (.string (str (Lib.itoa n))) ∧ w = w' := by
  by_cases hn : n < 0
  · obtain ⟨m, rfl⟩ : ∃ m : Nat, n = -(m : Int) := ⟨n.natAbs, by omega⟩
    have h2 := hid (fun w => r_digitsN m m (Nat.le_refl _) (by omega) w)
    obtain ⟨Z, HZ⟩ : ∃ Z, Hid (Z = Lib.itoa (-(m : Int))) := ⟨_, rfl⟩
    rw [← HZ.out]
    have HS : Hid (Z = 45 :: Lib.decDigits m) := by show _ = _; rw [HZ.out, Lib.itoa_neg m (by omega)]
    have z1 := str_size (Lib.decDigits m)
    have l1 := Lib.decDigits_length m
    have l3 := nDig_le 20 m (by omega) (by decide)
    have wm : IntKind.i64.wrap (m : Int) = m := IntWalk.i64_in _ (by omega)
    have hm : 0 < m := by omega
    go_enter Tryz.func63, Tryz.ntmps63
    go_wp2_with fail
    refine (h2.out w).mono ?_
    rintro e w1 ⟨rfl, rfl⟩
    dsimp only
    go_wp2_with fail
    go_ret
    rw [str2m, HS.out]
    exact ⟨rfl, rfl⟩
  · obtain ⟨m, rfl⟩ : ∃ m : Nat, n = (m : Int) := ⟨n.toNat, by omega⟩
    rw [itoa_small]
    exact r_digitsN m m (Nat.le_refl _) (by omega) w
theorem r9_limited (t : List UInt8) (w : World) : Calls Tryz.prog 46 #[.string (str t)] w fun e w' => e = .returned (limV (limR t)) ∧ w' = w := by
  have hs : (str t).size = t.length := str_size t
  unfold limR limV
  by_cases h : 4096 < t.length
  · rw [if_pos h]
    have h' : (4096 : Int) < ((str t).size : Int) := by omega
    go_enter Tryz.func46, Tryz.ntmps46
    go_wp2_with fail
    go_ret2
    exact ⟨rfl, rfl⟩
  · rw [if_neg h]
    have h' : ¬ (4096 : Int) < ((str t).size : Int) := by omega
    go_enter Tryz.func46, Tryz.ntmps46
    go_wp2_with fail
    go_ret2
    exact ⟨rfl, rfl⟩
theorem r9_times (m : Int) (h0 : 1 ≤ m) (h1 : m < 100) (w : World) : Calls Tryz.prog 87 #[.int .i64 m] w fun e w' => e = .returned (.string (str (timesT m))) ∧ w = w' := by
  unfold timesT
  by_cases h : m = 1
  · subst h
    rw [if_pos rfl]
    go_enter Tryz.func87, Tryz.ntmps87
    go_wp2_with fail
    go_ret
    exact ⟨rfl, rfl⟩
  · rw [if_neg h]
    have hb : (m == 1) = false := by simpa using h
    have hd := hid (fun w => r_dig m (by omega) (by omega) w)
    have z1 := str_size (Lib.itoa m)
    have l1 := itoa_low (n := m) (by omega) h1
    clear h
    go_enter Tryz.func87, Tryz.ntmps87
    go_wp2_with fail
    refine (hd.out w).mono ?_
    rintro e w1 ⟨rfl, rfl⟩
    dsimp only
    go_wp2_with fail
    go_ret
    rw [str2b]
    exact ⟨rfl, rfl⟩
theorem times_len {m : Int} (h0 : 1 ≤ m) (h1 : m < 100) : (timesT m).length ≤ 3 := by
  have := itoa_low (n := m) (by omega) h1
  unfold timesT
  split <;> simp
  omega
theorem str5 (a b : List UInt8) : ({ data := #[32] } : ByteArray) ++ str a ++ ({ data := #[45] } : ByteArray) ++ str b = str (32 :: (a ++ 45 :: b)) := by
  apply ByteArray.ext
  simp [str]
theorem str_n58 (a : List UInt8) : str a ++ ({ data := #[58] } : ByteArray) = str (a ++ [58]) := by
  apply ByteArray.ext
  simp [str]

set_option maxRecDepth 100000 in
set_option maxHeartbeats 4000000 in
theorem r9_edges (g : G) (gv : Value) (w : World) (hg : GrR w gv g) (hk : Gok g) :
    Calls Tryz.prog 47 #[gv] w fun e w' => e = .returned (.string (str (tabT 45 g))) ∧ Below w.heap.size w w' := by
  obtain ⟨Z, HZ⟩ : ∃ Z, Hid (Z = tabT 45 g) := ⟨_, rfl⟩
  rw [← HZ.out]
  have HLOW := hid (gok_low hk)
  have hn := hk.n
  have HLEN := hid hk.len
  have hit := itoa_low (n := g.n) (by omega) (by omega)
  have zn := str_size (Lib.itoa g.n)
  have hdn := hid (fun w => r_dig g.n (by omega) (by omega) w)
  obtain ⟨ev, rfl, hE⟩ := hg
  have HE := hid hE
  obtain ⟨a, cap, rfl, hcap, hcm, _⟩ := hE
  have hgb := hid (Blk.new w #[.int .i64 g.n, .slice a g.es.length cap] 24)
  have HB0 := hid ((Below.refl w.heap.size w).alloc (Nat.le_refl _) (.cells #[.int .i64 g.n, .slice a g.es.length cap] 24))
  have HE0 := hid (HE.out.below HB0.out)
  go_enter Tryz.func47, Tryz.ntmps47
  go_upto_region 1 with fail
  generalize w.alloc (.cells #[.int .i64 g.n, .slice a g.es.length cap] 24) = W0 at *
  have c0 : W0.cell? ⟨w.heap.size, 0, none⟩ = some (.int .i64 g.n) := (hgb.out.cell 0).trans rfl
  have hgl := hgb.out.lt
  go_wp2_with fail
  refine (hdn.out W0).mono ?_
  rintro e w1 ⟨rfl, rfl⟩
  dsimp only
  go_wp2_with fail
  rw [str_n58]
  clear c0 hgl hn zn hdn
  go_loopw [3, 4] (fun s i wr => ∃ (k : Nat) (acc : List UInt8), k ≤ g.es.length ∧ i = .int .i64 k ∧ s = .string (str acc) ∧ acc.length ≤ 3 + 9 * k ∧ Hid (acc ++ arcsT 45 (g.es.drop k) = Z) ∧ Hid (Below W0.heap.size W0 wr))
    (fun _ i _ => g.es.length - (intOf i).toNat)
  case atStart => exact ⟨0, Lib.itoa g.n ++ [58], Nat.zero_le _, rfl, rfl, by simp; omega, by show _ = _; rw [HZ.out]; simp [tabT], Below.refl _ _⟩
  case round =>
    obtain ⟨k, acc, hkn, rfl, rfl, hacc, HA, HB⟩ := hrel
    obtain ⟨W1, rfl⟩ : ∃ W : World, W = wr := ⟨_, rfl⟩
    have hgw := hgb.out.below HB.out
    have g1 : W1.cell? ⟨w.heap.size, 1, none⟩ = some (.slice a g.es.length cap) := (hgw.cell 1).trans rfl
    have hgl := hgw.lt
    have hlen := HLEN.out
    by_cases hlt : k < g.es.length
    · have hlt' : (k : Int) < (g.es.length : Int) := by omega
      have hk0 : (0 : Int) ≤ (k : Int) := by omega
      obtain ⟨a', cap', ea, _, _, _, hc⟩ := HE0.out.below HB.out
      injection ea with ea1 _ ea3
      subst ea1 ea3
      obtain ⟨b, off, rfl, hb, hc⟩ := hc.edge (by omega)
      obtain ⟨c0, c1, c2⟩ := hc k hlt
      have ha2 := HA.out
      rw [drop_arcs hlt] at ha2
      have hlow := HLOW.out (g.es[k]?.getD default) (by rw [List.getElem?_eq_getElem hlt]; exact List.getElem_mem hlt)
      clear hc
      generalize hx : g.es[k]?.getD default = x at *
      obtain ⟨xa, xb, xm⟩ := x
      dsimp only at c0 c1 c2
      have HA := hid ha2
      obtain ⟨q1, q2, q3, q4, q5, q6⟩ := hlow
      dsimp only at q1 q2 q3 q4 q5 q6
      clear hx ha2
      go_upto_region 6 with fail
      have HX := hid (Blk.new W1 #[.int .i64 xa, .int .i64 xb, .int .i64 xm] 82)
      have HB2 := hid (HB.out.alloc HB.out.size (.cells #[.int .i64 xa, .int .i64 xb, .int .i64 xm] 82))
      generalize hX : W1.heap.size = X at *
      generalize W1.alloc (.cells #[.int .i64 xa, .int .i64 xb, .int .i64 xm] 82) = W4 at *
      have x0 : W4.cell? ⟨X, 0, none⟩ = some (.int .i64 xa) := (HX.out.cell 0).trans rfl
      have x1 : W4.cell? ⟨X, 1, none⟩ = some (.int .i64 xb) := (HX.out.cell 1).trans rfl
      have x2 : W4.cell? ⟨X, 2, none⟩ = some (.int .i64 xm) := (HX.out.cell 2).trans rfl
      have hXl := HX.out.lt
      clear c0 c1 c2 g1 hgl hgw hb HB
      have hia := hid (fun w => r_dig xa (by omega) (by omega) w)
      have hib := hid (fun w => r_dig xb (by omega) (by omega) w)
      have him := hid (fun w => r9_times xm q5 q6 w)
      have la : (str (Lib.itoa xa)).size ≤ 2 := by rw [str_size]; exact itoa_low q1 q2
      have lb : (str (Lib.itoa xb)).size ≤ 2 := by rw [str_size]; exact itoa_low q3 q4
      have lm : (str (timesT xm)).size ≤ 3 := by rw [str_size]; exact times_len q5 q6
      have ls := str_size acc
      have zs : (({ data := #[32] } : ByteArray)).size = 1 := rfl
      have zd : (({ data := #[45] } : ByteArray)).size = 1 := rfl
      let S : World → Prop := fun W' => Hid (W' = W4.drew)
      (refine wp_region_text 15 [0,1,2,6,7,10,11,3,4,5,8,9,12,13,14] S (by kernel_rfl) (by kernel_rfl) (by intro _ _ d _ _ h; cases d <;> exact h) ?hS ?_; rotate_left; simp only [List.map_cons, List.map_nil, List.getD_cons_zero, List.getD_cons_succ, List.drop_succ_cons, List.drop_zero])
      case hS => exact rfl
      (repeat ((refine' wpSeq_take rfl _ (by rfl) ?_ ?_; rotate_left; focus (intro w' hS; (try dsimp only at hS); obtain rfl := hS.out; go_simp; (first | done | with_reducible rfl)); (try simp only [Act.put, List.setIfInBounds_toArray, List.set_cons_zero, List.set_cons_succ])); (try simp only [Act.put, List.setIfInBounds_toArray, List.set_cons_zero, List.set_cons_succ])))
      (refine wpSeq_call rfl (by rfl) (fun K hK => ?_); go_simp; refine ((hia.out _)).mono ?_; rintro e w1 ⟨rfl, rfl⟩; refine hK _ _ (rfl) ?_; clear hK K; (try simp only [Act.put, List.setIfInBounds_toArray, List.set_cons_zero, List.set_cons_succ]))
      (refine' wpSeq_take rfl _ (by rfl) ?_ ?_; rotate_left; focus (intro w' hS; (try dsimp only at hS); obtain rfl := hS.out; go_simp; rw [if_neg (by omega)]); (try simp only [Act.put, List.setIfInBounds_toArray, List.set_cons_zero, List.set_cons_succ]))
      (refine' wpSeq_take rfl _ (by rfl) ?_ ?_; rotate_left; focus (intro w' hS; (try dsimp only at hS); obtain rfl := hS.out; go_simp; rw [if_neg (by omega)]); (try simp only [Act.put, List.setIfInBounds_toArray, List.set_cons_zero, List.set_cons_succ]))
      (refine wpSeq_call rfl (by rfl) (fun K hK => ?_); go_simp; refine ((hib.out _)).mono ?_; rintro e w1 ⟨rfl, rfl⟩; refine hK _ _ (rfl) ?_; clear hK K; (try simp only [Act.put, List.setIfInBounds_toArray, List.set_cons_zero, List.set_cons_succ]))
      (refine' wpSeq_take rfl _ (by rfl) ?_ ?_; rotate_left; focus (intro w' hS; (try dsimp only at hS); obtain rfl := hS.out; go_simp; rw [if_neg (by omega)]); (try simp only [Act.put, List.setIfInBounds_toArray, List.set_cons_zero, List.set_cons_succ]))
      (refine wpSeq_call rfl (by rfl) (fun K hK => ?_); go_simp; refine ((him.out _)).mono ?_; rintro e w1 ⟨rfl, rfl⟩; refine hK _ _ (rfl) ?_; clear hK K; (try simp only [Act.put, List.setIfInBounds_toArray, List.set_cons_zero, List.set_cons_succ]))
      (refine' wpSeq_take rfl _ (by rfl) ?_ ?_; rotate_left; focus (intro w' hS; (try dsimp only at hS); obtain rfl := hS.out; go_simp; rw [if_neg (by omega)]); (try simp only [Act.put, List.setIfInBounds_toArray, List.set_cons_zero, List.set_cons_succ]))
      (refine' wpSeq_take rfl _ (by rfl) ?_ ?_; rotate_left; focus (intro w' hS; (try dsimp only at hS); obtain rfl := hS.out; go_simp; rw [if_neg (by omega)]); (try simp only [Act.put, List.setIfInBounds_toArray, List.set_cons_zero, List.set_cons_succ]))
      refine wpSeq_nil ?_
      clear S
      go_wp2_with fail
      go_roundw
      case rel =>
        refine ⟨k + 1, acc ++ arcT 45 ⟨xa, xb, xm⟩, by omega, by go_num, ?_, ?_, ?_, below_dN HB2.out _⟩
        · congr 1
          apply ByteArray.ext
          simp [str, arcT]
        · have := arcT_low 45 (x := ⟨xa, xb, xm⟩) ⟨q1, q2, q3, q4, q5, q6⟩
          rw [List.length_append]; omega
        · show _ = _
          rw [← HA.out, List.append_assoc]
      case measure => simp [intOf]; omega
    · obtain rfl : k = g.es.length := by omega
      have hz := HA.out
      rw [List.drop_length] at hz
      have hz2 : acc = Z := by rw [← hz]; simp [arcsT]
      have hlt' : ¬ (g.es.length : Int) < (g.es.length : Int) := by omega
      clear hz HA
      go_wp2_with fail
      go_ret
      exact ⟨rfl, up HB0.out HB.out⟩
set_option maxRecDepth 100000 in
set_option maxHeartbeats 1000000 in
theorem r9_Graph (g : G) (gv : Value) (w : World) (hg : GrR w gv g) :
    Calls Tryz.prog 14 #[gv] w fun e w' => e = .returned (limV (graphR g)) ∧ Below w.heap.size w w' := by
  obtain ⟨Z, HZ⟩ : ∃ Z, Hid (Z = graphR g) := ⟨_, rfl⟩
  rw [← HZ.out]
  have HG0 := hid hg
  obtain ⟨ev, rfl, hE⟩ := hg
  obtain ⟨a, cap, rfl, _⟩ := hE
  have hgb := hid (Blk.new w #[.int .i64 g.n, .slice a g.es.length cap] 24)
  have HB0 := hid ((Below.refl w.heap.size w).alloc (Nat.le_refl _) (.cells #[.int .i64 g.n, .slice a g.es.length cap] 24))
  have HG1 := hid (HG0.out.below HB0.out)
  go_enter Tryz.func14, Tryz.ntmps14
  go_upto_region 1 with fail
  generalize w.alloc (.cells #[.int .i64 g.n, .slice a g.es.length cap] 24) = W0 at *
  have c0 : W0.cell? ⟨w.heap.size, 0, none⟩ = some (.int .i64 g.n) := (hgb.out.cell 0).trans rfl
  have c1 : W0.cell? ⟨w.heap.size, 1, none⟩ = some (.slice a g.es.length cap) := (hgb.out.cell 1).trans rfl
  have hgl := hgb.out.lt
  go_wp2_with fail
  refine (r08_Check g _ W0 HG1.out).mono ?_
  rintro e w1 ⟨rfl, hB1⟩
  have HB1 := hid (up HB0.out hB1)
  have HG2 := hid (HG1.out.below hB1)
  have hgb1 := hid (hgb.out.below hB1)
  clear c0 c1 hgl hB1
  dsimp only
  by_cases hc : checkErr g = 0
  · have HZ2 : Hid (Z = limR (wGraph ++ 32 :: tabT 45 g)) := by have h := HZ.out; unfold graphR at h; rw [if_neg (by omega)] at h; exact h
    have htl : (tabT 45 g).length ≤ 2000 := by
      have h0 := Gok.n hc
      have h1 := itoa_low (n := g.n) (by omega) (by omega)
      have h2 := arcsT_len (sign := 45) (gok_low hc)
      have h3 := Gok.len hc
      unfold tabT
      simp
      omega
    have hed := hid (fun w hg => r9_edges g (.agg #[.int .i64 g.n, .slice a g.es.length cap]) w hg hc)
    have hlm := hid (fun w => r9_limited (wGraph ++ 32 :: tabT 45 g) w)
    have c0 : w1.cell? ⟨w.heap.size, 0, none⟩ = some (.int .i64 g.n) := (hgb1.out.cell 0).trans rfl
    have c1 : w1.cell? ⟨w.heap.size, 1, none⟩ = some (.slice a g.es.length cap) := (hgb1.out.cell 1).trans rfl
    have hgl := hgb1.out.lt
    have zt := str_size (tabT 45 g)
    have zg : (({ data := #[103, 114, 97, 112, 104, 32] } : ByteArray)).size = 6 := rfl
    have zz : ({ data := #[103, 114, 97, 112, 104, 32] } : ByteArray) ++ str (tabT 45 g) = str (wGraph ++ 32 :: tabT 45 g) := by
      apply ByteArray.ext
      simp [str, wGraph]
    rw [hc]
    clear HZ hc HG0 HG1
    generalize tabT 45 g = tx at *
    rw [← HZ2.out] at hlm
    obtain ⟨z1, z2⟩ := Z
    unfold limV at hlm
    dsimp only at hlm
    go_wp2_with fail
    refine (hed.out w1 HG2.out).mono ?_
    rintro e w2 ⟨rfl, hB2⟩
    have HB2 := hid (up HB1.out hB2)
    clear hB2 c0 c1 hgl
    dsimp only
    go_wp2_with fail
    refine (hlm.out w2).mono ?_
    rintro e w3 ⟨rfl, rfl⟩
    dsimp only
    go_wp2_with fail
    refine bodyPost_ret (results_two rfl _ _ _) rfl ?_
    exact ⟨rfl, HB2.out⟩
  · have HZ2 : Hid (Z = (checkErr g, [])) := by have h := HZ.out; unfold graphR at h; rw [if_pos hc] at h; exact h
    have hc1 : (checkErr g != 0) = true := by simpa using hc
    clear HZ hc
    go_wp2_with fail
    refine bodyPost_ret (results_two rfl _ _ _) rfl ?_
    rw [HZ2.out]
    exact ⟨rfl, HB1.out⟩
theorem r9_FewGraph (g : G) (gv : Value) (w : World) (hg : GrR w gv g) :
    Calls Tryz.prog 11 #[gv] w fun e w' => e = .returned (.bool (decide (g.es.length ≤ 100))) ∧ Below w.heap.size w w' := by
  obtain ⟨ev, rfl, hE⟩ := hg
  obtain ⟨a, cap, rfl, _⟩ := hE
  have hi : decide ((g.es.length : Int) ≤ 100) = decide (g.es.length ≤ 100) := by by_cases h : g.es.length ≤ 100 <;> simp [h] <;> omega
  by_cases h : g.es.length ≤ 100
  · have h' : (g.es.length : Int) ≤ 100 := by omega
    rw [decide_eq_true h]
    go_enter Tryz.func11, Tryz.ntmps11
    go_wp2_with fail
    go_ret
    exact ⟨rfl, by go_grown⟩
  · have h' : ¬ (g.es.length : Int) ≤ 100 := by omega
    rw [decide_eq_false h]
    go_enter Tryz.func11, Tryz.ntmps11
    go_wp2_with fail
    go_ret
    exact ⟨rfl, by go_grown⟩

end Go.Proofs.YtemmepgfngkgmaaGreatDoor
