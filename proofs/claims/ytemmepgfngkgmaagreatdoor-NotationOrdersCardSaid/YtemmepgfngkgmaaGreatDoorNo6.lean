/-
  Reading of an argument: pairs of bytes. The walk of NotationOrders.
-/
import Derived.Test.YtemmepgfngkgmaaGreatDoorNo5
import Derived.Test.YtemmepgfngkgmaaGreatDoorN55
namespace Go.Proofs.YtemmepgfngkgmaaGreatDoor
open Go.ChangeShapes Go.WideShapes Go.ChangeAt Go.RowKit Go.Deep Go.Joins
set_option linter.unusedVariables false
set_option linter.unusedSimpArgs false

theorem und_u8 : Tryz.prog.underlying 5 = some (.int .u8) := by kernel_rfl
theorem und_P8s : Tryz.prog.underlying 77 = some (.slice 79) := by kernel_rfl
theorem und_P8 : Tryz.prog.underlying 79 = some (.array 2 5) := by kernel_rfl
theorem cells_P8 : Tryz.prog.cellsOf 79 = 2 := by kernel_rfl
theorem cells_u8 : Tryz.prog.cellsOf 5 = 1 := by kernel_rfl
theorem bytes_P8 : Tryz.prog.bytesOf 79 = 2 := by kernel_rfl
theorem u8_lo {n : Int} (h : (Lit.int IntKind.u8 n).wf = true) : 0 ≤ n ∧ n ≤ 255 := by
  simp only [Lit.wf, Bool.and_eq_true, decide_eq_true_eq, show IntKind.u8.min = 0 from rfl, show IntKind.u8.max = 255 from rfl] at h
  exact h
/-- v is a slice of pairs of bytes. -/
def P8R (w : World) (v : Value) (ps : List (Int × Int)) : Prop :=
  (∃ a cap, v = .slice a ps.length cap ∧ ps.length ≤ cap ∧ cap ≤ 9223372036854775807 ∧ (∀ k, k < ps.length → ∃ b off, a = some ⟨b, off, none⟩ ∧ b < w.heap.size ∧ w.cell? ⟨b, off + k * 2, none⟩ = some (.int .u8 (ps[k]?.getD (0, 0)).1) ∧ w.cell? ⟨b, off + k * 2 + 1, none⟩ = some (.int .u8 (ps[k]?.getD (0, 0)).2))) ∧
    ∀ k : Nat, (0 ≤ (ps[k]?.getD (0, 0)).1 ∧ (ps[k]?.getD (0, 0)).1 ≤ 255) ∧ (0 ≤ (ps[k]?.getD (0, 0)).2 ∧ (ps[k]?.getD (0, 0)).2 ≤ 255)
theorem P8R.below {w w' : World} {v : Value} {ps : List (Int × Int)} (h : P8R w v ps) (hB : Below w.heap.size w w') : P8R w' v ps := by
  obtain ⟨⟨a, cap, h1, h2, h3, h4⟩, h5⟩ := h
  refine ⟨⟨a, cap, h1, h2, h3, fun k hk => ?_⟩, h5⟩
  obtain ⟨b, off, e, hb, c0, c1⟩ := h4 k hk
  exact ⟨b, off, e, Nat.lt_of_lt_of_le hb hB.size, (hB.cell (p := ⟨b, off + k * 2, none⟩) hb).trans c0, (hB.cell (p := ⟨b, off + k * 2 + 1, none⟩) hb).trans c1⟩
section
variable {H : Type} {enc : TypeId × Value → H} {W : World} {base : Nat} {held : Bool}
set_option maxRecDepth 100000 in
theorem reads_P8 {fuel : Nat} {v : Value} {y : DataW H × List MemPlace} (h : DataW.trod enc Tryz.prog W base (fun _ => true) held fuel 77 [v] = some y) : ∃ ps, P8R W v ps := by
  rcases open_slice und_P8s h with ⟨hcs, rfl⟩ | ⟨a, len, cap, m, n, D, Pl, hcs, _, hl, hm, hmm, rfl, hx⟩
  · simp at hcs
    subst hcs
    exact ⟨[], ⟨none, 0, rfl, Nat.le_refl _, by omega, fun k hk => by simp at hk⟩, fun k => by simp⟩
  · simp at hcs
    subst hcs
    simp only [if_true] at hmm
    subst hmm
    have each : ∀ i, i < len → ∃ x : Int × Int, (W.cell? (a.add (i * 2)) = some (.int .u8 x.1) ∧ W.cell? (a.add (i * 2 + 1)) = some (.int .u8 x.2)) ∧ (0 ≤ x.1 ∧ x.1 ≤ 255) ∧ (0 ≤ x.2 ∧ x.2 ≤ 255) := by
      intro i hi
      obtain ⟨cs', h1, h2⟩ := hx i (by omega)
      rw [cells_P8] at h1
      obtain ⟨_, hlen, hcell⟩ := World.cells?_some h1
      obtain ⟨xs, k, _, _, _, hxl, hf⟩ := DataW.trod_array und_P8 h2
      obtain ⟨v0, v1, rfl⟩ := list2 hlen
      obtain ⟨y0, y1, rfl⟩ := list2 hxl
      have g0 := hf 0 (by decide)
      have g1 := hf 1 (by decide)
      rw [cells_u8] at g0 g1
      have g0 : DataW.trod enc Tryz.prog W base (fun _ => true) held k 5 [v0] = some y0 := g0
      have g1 : DataW.trod enc Tryz.prog W base (fun _ => true) held k 5 [v1] = some y1 := g1
      obtain ⟨n0, e0, _, f0⟩ := DataW.trod_int und_u8 g0
      obtain ⟨n1, e1, _, f1⟩ := DataW.trod_int und_u8 g1
      simp at e0 e1
      subst e0 e1
      have q0 := hcell 0 (by omega)
      have q1 := hcell 1 (by omega)
      rw [add_add] at q0 q1
      exact ⟨(n0, n1), ⟨by simpa using q0, by simpa using q1⟩, u8_lo f0, u8_lo f1⟩
    obtain ⟨q, hq⟩ := choose_lt (α := Int × Int) each
    have hg : ∀ k : Nat, k < len → ((List.range len).map q)[k]?.getD (0, 0) = q k := fun k hk => by simp [hk]
    refine ⟨(List.range len).map q, ⟨some a, m, by simp, by simpa using hl, by unfold maxLen at hm; omega, fun k hk => ?_⟩, fun k => ?_⟩
    · have hk : k < len := by simpa using hk
      rw [hg k hk]
      obtain ⟨⟨c0, c1⟩, _⟩ := hq k hk
      have h00 := (hq 0 (by omega)).1.1
      have hsp := World.cell?_spot h00
      have hlt := law_lt h00
      simp [Addr.add] at hsp hlt
      obtain ⟨b, off, spot⟩ := a
      dsimp only at hsp hlt
      subst hsp
      refine ⟨b, off, rfl, hlt, ?_, ?_⟩
      · rw [← c0]; congr 1; unfold Addr.add; split <;> simp_all
      · rw [← c1]; congr 1
    · by_cases hk : k < len
      · rw [hg k hk]; exact (hq k hk).2
      · rw [List.getElem?_eq_none (by simp; omega)]
        exact ⟨⟨by decide, by decide⟩, by decide, by decide⟩
end
end Go.Proofs.YtemmepgfngkgmaaGreatDoor
namespace Go.Proofs.YtemmepgfngkgmaaGreatDoor
open Go.RowKit
set_option linter.unusedVariables false
set_option linter.unusedSimpArgs false

/-- The ends that are meant. -/
def modP (k : Int) (p : Int × Int) : Int × Int := (p.1 % k, p.2 % k)
theorem modP_in {k : Int} (hk : 1 ≤ k) (p : Int × Int) : InP k (modP k p) := ⟨⟨Int.emod_nonneg _ (by omega), Int.emod_lt_of_pos _ (by omega)⟩, ⟨Int.emod_nonneg _ (by omega), Int.emod_lt_of_pos _ (by omega)⟩⟩
theorem arcs_snoc (es : List E) (x : E) : arcsT 45 (es ++ [x]) = arcsT 45 es ++ arcT 45 x := by
  unfold arcsT
  rw [List.flatMap_append]
  simp
theorem pairCells_snoc (ps : List (Int × Int)) (p : Int × Int) : pairCells (ps ++ [p]) = pairCells ps ++ [.int .i64 p.1, .int .i64 p.2] := by
  unfold pairCells
  rw [List.flatMap_append]
  simp

theorem text_len {n : Int} (hn : 1 ≤ n ∧ n ≤ 12) {ps : List (Int × Int)} (hin : ∀ p ∈ ps, InP n p) (hl : ps.length ≤ 40) : (wGraph ++ 32 :: tabT 45 (⟨n, ps.map endE⟩ : G)).length ≤ 4096 := by
  have hinE : ∀ x ∈ ps.map endE, InE n x := fun x hx => by
    obtain ⟨p, hp, rfl⟩ := List.mem_map.1 hx
    exact endE_in (hin p hp)
  have h1 := itoa_low (n := n) (by omega) (by omega)
  have h2 := arcsT_len (sign := 45) (es := ps.map endE) (fun x hx => by
    have := hinE x hx
    unfold InE at this
    exact ⟨by omega, by omega, by omega, by omega, by omega, by omega⟩)
  rw [List.length_map] at h2
  unfold tabT
  simp [wGraph]
  omega
theorem gr_one (w : World) (n : Int) (x : E) (e : TypeId) : GrR (w.alloc (.cells #[.int .i64 x.a, .int .i64 x.b, .int .i64 x.m] e)) (.agg #[.int .i64 n, .slice (some ⟨w.heap.size, 0, none⟩) 1 1]) ⟨n, [x]⟩ := by
  refine ⟨_, rfl, _, 1, rfl, by simp, by omega, by simp, .inr ⟨_, 0, rfl, by simp, fun i hi => ?_⟩⟩
  rw [Nat.zero_add, World.cell?_alloc_new]
  simp [E.cells]
theorem str_app2 (a b : List UInt8) : (str a) ++ (str b) = str (a ++ b) := by
  apply ByteArray.ext
  simp [str]
theorem tab_pre (k : Int) (es : List E) : wGraph ++ 32 :: tabT 45 ⟨k, es⟩ = (wGraph ++ 32 :: tabT 45 ⟨k, []⟩) ++ arcsT 45 es := by
  simp [tabT, arcsT]
theorem tab_snoc (k : Int) (es : List E) (x : E) : wGraph ++ 32 :: tabT 45 ⟨k, es ++ [x]⟩ = (wGraph ++ 32 :: tabT 45 ⟨k, es⟩) ++ arcT 45 x := by
  rw [tab_pre k (es ++ [x]), tab_pre k es, arcs_snoc]
  simp only [List.append_assoc, List.cons_append]

set_option maxRecDepth 100000 in
set_option maxHeartbeats 8000000 in
theorem l_NOrders (n : Int) (hn0 : 0 ≤ n) (hn1 : n ≤ 255) (ps : List (Int × Int)) (v : Value) (w : World) (hE : Env w) (hv : P8R w v ps) :
    Calls Tryz.prog 10 #[.int .u8 n, v] w fun e w' => e = .returned (.bool true) ∧ Below w.heap.size w w' := by
  obtain ⟨i0, hi0, hz0, hz1, hz2⟩ := info_parts Tryz.info22
  have HE := hid hE
  have HV := hid hv
  obtain ⟨⟨a, cap, rfl, hcap, hcm, _⟩, _⟩ := hv
  have wn : IntKind.i64.wrap n = n := IntWalk.i64_in _ (by omega)
  have hm0 : 0 ≤ n % 12 := Int.emod_nonneg _ (by decide)
  have hm1 : n % 12 < 12 := Int.emod_lt_of_pos _ (by decide)
  have htm : n.tmod 12 = n % 12 := Int.tmod_eq_emod_of_nonneg hn0
  have wk : IntKind.i64.wrap (1 + n % 12) = 1 + n % 12 := IntWalk.i64_in _ (by omega)
  by_cases hl : 40 < ps.length
  · have hl' : (40 : Int) < (ps.length : Int) := by omega
    go_enter Tryz.func10, Tryz.ntmps10
    go_wp2_with fail
    refine (l_awake w HE.out).mono ?_
    rintro e wz ⟨rfl, hB⟩
    dsimp only
    go_wp2_with fail
    go_ret
    exact ⟨rfl, hB⟩
  have hl' : ¬ (40 : Int) < (ps.length : Int) := by omega
  have HL : Hid (ps.length ≤ 40) := by show _ ≤ _; omega
  go_enter Tryz.func10, Tryz.ntmps10
  go_upto_region 5 with fail
  obtain ⟨K, hK⟩ : ∃ K, K = 1 + n % 12 := ⟨_, rfl⟩
  have hK1 : 1 ≤ K ∧ K ≤ 12 := by omega
  rw [← hK]
  have HK := hid hK1
  clear hm0 hm1 htm wk wn hK hK1 hl hl' hn0 hn1
  go_wp2_with fail
  refine (n_Graph ⟨K, []⟩ _ w ⟨_, rfl, none, 0, rfl, Nat.le_refl _, by omega, by simp, .inl rfl⟩).mono ?_
  rintro e w1 ⟨rfl, hB⟩
  rw [none_text HK.out]
  unfold limV
  have HB := hid hB
  clear hB
  dsimp only
  clear hE
  go_wp2_with fail
  go_loopw [6, 7, 36] (fun lv sv i wr => ∃ k : Nat, k ≤ ps.length ∧ i = .int .i64 k ∧ Hid (sv = .string (str (wGraph ++ 32 :: tabT 45 ⟨K, ((ps.map (modP K)).take k).map endE⟩))) ∧ Hid (wr.ownsRow w1.heap.size 80 2 lv k (pairCells ((ps.map (modP K)).take k))) ∧ Hid (Below w1.heap.size w1 wr)) (fun _ _ i _ => ps.length - (intOf i).toNat)
  case atStart => exact ⟨0, Nat.zero_le _, rfl, rfl, World.ownsRow_nil _ _ _ _, Below.refl _ _⟩
  case round =>
    obtain ⟨k, hkn, rfl, HS, HO, HB1⟩ := hrel
    by_cases hlt : k < ps.length
    · have hlt' : (k : Int) < (ps.length : Int) := by omega
      have hk0 : (0 : Int) ≤ (k : Int) := by omega
      obtain ⟨⟨a', cap', ea, _, _, hc⟩, hr⟩ := (HV.out.below HB.out).below HB1.out
      injection ea with ea1 _ ea3
      subst ea1 ea3
      obtain ⟨b, off, rfl, hb, c0, c1⟩ := hc k hlt
      have hr := hr k
      have htk : Hid ((ps.map (modP K)).take (k + 1) = (ps.map (modP K)).take k ++ [modP K (ps[k]?.getD (0, 0))]) := by
        show _ = _
        rw [List.take_add_one]
        simp [hlt]
      generalize ps[k]?.getD (0, 0) = p at *
      obtain ⟨p1, p2⟩ := p
      dsimp only at c0 c1 hr
      have wp1 : IntKind.i64.wrap p1 = p1 := IntWalk.i64_in _ (by omega)
      have wp2 : IntKind.i64.wrap p2 = p2 := IntWalk.i64_in _ (by omega)
      have hk1 := HK.out
      have tm1 : p1.tmod K = p1 % K := Int.tmod_eq_emod_of_nonneg hr.1.1
      have tm2 : p2.tmod K = p2 % K := Int.tmod_eq_emod_of_nonneg hr.2.1
      have hin := modP_in hk1.1 (p1, p2)
      unfold modP at hin
      dsimp only at hin
      have HTK : Hid ((ps.map (modP K)).take (k + 1) = (ps.map (modP K)).take k ++ [(p1 % K, p2 % K)]) := htk
      have HQ : Hid (InP 12 (p1 % K, p2 % K)) := ⟨⟨hin.1.1, by have := hin.1.2; dsimp only at this ⊢; omega⟩, ⟨hin.2.1, by have := hin.2.2; dsimp only at this ⊢; omega⟩⟩
      clear htk hin
      have hb1 : 0 ≤ p1 % K ∧ p1 % K < K := ⟨Int.emod_nonneg _ (by omega), Int.emod_lt_of_pos _ (by omega)⟩
      have hb2 : 0 ≤ p2 % K ∧ p2 % K < K := ⟨Int.emod_nonneg _ (by omega), Int.emod_lt_of_pos _ (by omega)⟩
      have HX := hid (Blk.new wr #[.int .u8 p1, .int .u8 p2] 79)
      have HO1 := hid (HO.out.alloc (.cells #[.int .u8 p1, .int .u8 p2] 79))
      have hs := HB1.out.size
      have HB2 := hid (HB1.out.alloc hs (.cells #[.int .u8 p1, .int .u8 p2] 79))
      go_upto_region 9 with fail
      generalize hX : wr.heap.size = X at *
      generalize wr.alloc (.cells #[.int .u8 p1, .int .u8 p2] 79) = W1 at *
      have x0 := HX.out.cell 0
      have x1 := HX.out.cell 1
      simp only [List.getElem?_toArray, List.getElem?_cons_zero, List.getElem?_cons_succ] at x0 x1
      have hXl := HX.out.lt
      have hs1 := HB2.out.size
      have hkz : ¬ K = 0 := by omega
      have wq1 : IntKind.i64.wrap (p1 % K) = p1 % K := IntWalk.i64_in _ (by omega)
      have wq2 : IntKind.i64.wrap (p2 % K) = p2 % K := IntWalk.i64_in _ (by omega)
      clear c0 c1 HO HB1
      let S : World → Prop := fun W' => W' = W1.drew
      (refine wp_region_text 11 [0,1,2,3,4,5,6,7,8,9,10] S (by kernel_rfl) (by kernel_rfl) (by intro _ _ d _ _ h; cases d <;> exact h) ?hS ?_; rotate_left; simp only [List.map_cons, List.map_nil, List.getD_cons_zero, List.getD_cons_succ, List.drop_succ_cons, List.drop_zero])
      case hS => rfl
      (repeat ((refine' wpSeq_take rfl _ (by rfl) ?_ ?_; rotate_left; focus (intro w' hS; (try dsimp only at hS); subst hS; go_simp; (first | done | with_reducible rfl)); (try simp only [Act.put, List.setIfInBounds_toArray, List.set_cons_zero, List.set_cons_succ])); (try simp only [Act.put, List.setIfInBounds_toArray, List.set_cons_zero, List.set_cons_succ])))
      refine wpSeq_nil ?_
      clear S
      have HO2 := hid (HO1.out.drew)
      have HB3 := hid (HB2.out.drew)
      have hs2 := HB3.out.size
      generalize W1.drew = W2 at *
      clear HO1 HB2 x0 x1 hXl HX
      generalize p1 % K = q1 at *
      generalize p2 % K = q2 at *
      have hll := HL.out
      go_upto_region 11 with (at_builtin; refine wpList_append_own _ rfl _ _ 78 rfl w1.heap.size 80 i0 (.agg #[.int .i64 0, .int .i64 0]) 2 16 Tryz.und22 hi0 hz0 hz1 hz2 rfl (by decide) _ k _ rfl (HO2.out.alloc _) ⟨W2.heap.size, 0, none⟩ 1 1 [.int .i64 q1, .int .i64 q2] rfl rfl (news22 _ _ _ _) (by simp [Value.oneCell']) (by unfold maxLen; omega) (by omega) (by simp; omega) ?_; intro v' w2 hown2 hgr2 _; have HO3 := hid hown2; have HG := hid ((Below.toGrown ((Below.refl _ W2).alloc (Nat.le_refl _) (.cells #[.int .i64 q1, .int .i64 q2] 80)) u6.ownBlock).trans hgr2); clear hown2 hgr2)
      have HB4 := hid (HB3.out.grown HG.out hs2 (fun q hq => (HO2.out.lt q hq).1))
      clear HO2 HB3 HG
      go_wp2_with fail
      refine (r9_Graph ⟨12, [endE (q1, q2)]⟩ _ _ (gr_one w2 12 (endE (q1, q2)) _)).mono ?_
      rintro e w3 ⟨rfl, hB⟩
      rw [one_text HQ.out]
      unfold limV
      dsimp only
      have HB5 := hid (up (HB4.out.alloc HB4.out.size _) hB)
      have HO5 := hid (owns_below (HO3.out.alloc _) hB)
      clear hB HB4 HO3
      obtain ⟨t, ht⟩ : ∃ t, Hid (t = arcT 45 (endE (q1, q2))) := ⟨_, rfl⟩
      rw [← ht.out]
      obtain ⟨big, hbig⟩ : ∃ big, big = str ([103, 114, 97, 112, 104, 32, 49, 50, 58] ++ t) := ⟨_, rfl⟩
      have hbs : big.size = 9 + t.length := by rw [hbig, str_size]; simp; omega
      have hbl : ¬ (big.size : Int) < 9 := by omega
      have hbl2 : (9 : Int) ≤ (big.size : Int) := by omega
      have HEX : Hid (big.extract 9 big.size = str t) := by
        show _ = _
        rw [hbs, hbig, str_extract]
        congr 1
        simp
      rw [← hbig]
      clear hbig hbs
      obtain ⟨T, HT⟩ : ∃ T, Hid (T = wGraph ++ 32 :: tabT 45 ⟨K, ((ps.map (modP K)).take k).map endE⟩) := ⟨_, rfl⟩
      rw [← HT.out] at HS
      obtain rfl := HS.out
      have hcat0 : ¬ 9223372036854775807 < (str T).size + (str t).size := by
        have h := text_len (n := K) HK.out (ps := (ps.map (modP K)).take (k + 1)) (fun p hp => by
          obtain ⟨q, _, rfl⟩ := List.mem_map.1 (List.mem_of_mem_take hp)
          exact modP_in HK.out.1 q) (by rw [List.length_take]; have := HL.out; rw [List.length_map]; omega)
        rw [HTK.out, List.map_append, List.map_singleton, tab_snoc, ← ht.out, ← HT.out, List.length_append] at h
        rw [str_size, str_size]
        omega
      have hcat : ¬ 9223372036854775807 < (str T).size + (big.extract 9 big.size).size := by rw [HEX.out]; exact hcat0
      have hcat1 : ¬ 9223372036854775807 < (str T).size + (big.size - 9) := by
        have h : big.size - 9 = (str t).size := by rw [← HEX.out, ByteArray.size_extract]; omega
        rw [h]; exact hcat0
      clear hcat0
      go_wp2_with fail
      rw [HEX.out, str_app2]
      go_roundw
      case rel =>
        refine ⟨k + 1, by omega, by go_num, ?_, ?_, ?_⟩
        · show _ = _
          rw [HTK.out, List.map_append, List.map_singleton, tab_snoc, ← ht.out, ← HT.out]
        · show World.ownsRow _ _ _ _ _ _ _
          rw [HTK.out, pairCells_snoc]
          exact HO5.out
        · exact HB5.out
      case measure => simp [intOf]; omega
    · obtain rfl : k = ps.length := by omega
      have hlt' : ¬ (ps.length : Int) < (ps.length : Int) := by omega
      obtain ⟨W2, rfl⟩ : ∃ W : World, W = wr := ⟨_, rfl⟩
      have hql : (ps.map (modP K)).length = ps.length := List.length_map _
      rw [List.take_of_length_le (by omega)] at HS HO
      have hqi : ∀ p ∈ ps.map (modP K), InP K p := fun p hp => by
        obtain ⟨q, _, rfl⟩ := List.mem_map.1 hp
        exact modP_in HK.out.1 q
      have HLL := HL.out
      rw [← hql] at HO
      have HP := hid (owns_pairs HO.out (by rw [hql]; omega))
      obtain rfl := HS.out
      have HM := hid (fun w h => g_Make K HK.out (ps.map (modP K)) (by omega) hqi u6 w h)
      have HR := hid (orders_read HK.out hqi (by omega))
      have HN := hid (fun w hE => n_ReadGraph (wGraph ++ 32 :: tabT 45 ⟨K, (ps.map (modP K)).map endE⟩) w hE)
      rw [HR.out] at HN
      have HEN := hid (fun (W : World) (h : Below W2.heap.size W2 W) => ((HE.out.below HB.out).below HB1.out).below h)
      have HBW := hid (up HB.out HB1.out)
      clear HR HO HS hqi HE HB HB1 HV
      generalize (ps.map (modP K)) = qs at *
      generalize esOfM (bagM qs) K.toNat = es at *
      generalize wGraph ++ 32 :: tabT 45 ⟨K, qs.map endE⟩ = T at *
      go_wp2_with fail
      refine (HM.out W2 HP.out).mono ?_
      rintro e w3 ⟨gv, rfl, hg, hB⟩
      have HG0 := hid hg
      obtain ⟨ev, rfl, a1, cap1, rfl, _⟩ := hg
      have hst := (Below.refl w3.heap.size w3).alloc (Nat.le_refl _) (.cells #[.int .i64 K, .slice a1 es.length cap1] 24)
      have HG1 := hid (HG0.out.below hst)
      have HX1 := hid (Blk.new w3 #[.int .i64 K, .slice a1 es.length cap1] 24)
      have HB3 := hid (up hB hst)
      clear hB HG0 hst HP HM
      dsimp only
      go_upto_region 17 with fail
      generalize w3.alloc (.cells #[.int .i64 K, .slice a1 es.length cap1] 24) = W3 at *
      generalize w3.heap.size = X1 at *
      go_wp2_with fail
      refine (HN.out W3 (HEN.out W3 HB3.out)).mono ?_
      rintro e w4 ⟨gv, rfl, hg, hB⟩
      dsimp only at hg
      have HG3 := hid hg
      have HG2 := hid (HG1.out.below hB)
      have HX2 := hid (HX1.out.below hB)
      have HB4 := hid (up HB3.out hB)
      obtain ⟨ev, rfl, a2, cap2, rfl, _⟩ := hg
      have hst := (Below.refl w4.heap.size w4).alloc (Nat.le_refl _) (.cells #[.int .i64 K, .slice a2 es.length cap2] 24)
      have HG4 := hid (HG2.out.below hst)
      have HG5 := hid (HG3.out.below hst)
      have HX3 := hid (HX2.out.below hst)
      have HX4 := hid (Blk.new w4 #[.int .i64 K, .slice a2 es.length cap2] 24)
      have HB5 := hid (up HB4.out hst)
      clear hB HG1 HG2 HG3 HX1 HX2 HB3 HB4 hst HN
      dsimp only
      go_upto_region 18 with fail
      generalize w4.alloc (.cells #[.int .i64 K, .slice a2 es.length cap2] 24) = W4 at *
      generalize w4.heap.size = X2 at *
      have b0 : W4.cell? ⟨X1, 0, none⟩ = some (.int .i64 K) := (HX3.out.cell 0).trans rfl
      have b1 : W4.cell? ⟨X1, 1, none⟩ = some (.slice a1 es.length cap1) := (HX3.out.cell 1).trans rfl
      have bl := HX3.out.lt
      have d0 : W4.cell? ⟨X2, 0, none⟩ = some (.int .i64 K) := (HX4.out.cell 0).trans rfl
      have d1 : W4.cell? ⟨X2, 1, none⟩ = some (.slice a2 es.length cap2) := (HX4.out.cell 1).trans rfl
      have dl := HX4.out.lt
      go_wp2_with fail
      refine (q_Same ⟨K, es⟩ _ _ W4 HG5.out HG4.out).mono ?_
      rintro e w5 ⟨rfl, hB⟩
      have HB6 := hid (up HB5.out hB)
      clear b0 b1 bl d0 d1 dl
      dsimp only
      go_wp2_with fail
      refine (l_awake w5 (HEN.out w5 HB6.out)).mono ?_
      rintro e w6 ⟨rfl, hB2⟩
      dsimp only
      go_wp2_with fail
      go_ret
      exact ⟨rfl, up HBW.out (up HB6.out hB2)⟩

end Go.Proofs.YtemmepgfngkgmaaGreatDoor
