/-
  The reference: ReadDigraph.
-/
import Derived.Test.YtemmepgfngkgmaaGreatDoorN46
namespace Go.Proofs.YtemmepgfngkgmaaGreatDoor
open Go.RowKit
set_option linter.unusedVariables false
set_option linter.unusedSimpArgs false

set_option maxRecDepth 100000 in
set_option maxHeartbeats 4000000 in
theorem q_ReadDigraph (text : List UInt8) (w : World) :
    Calls Tryz.prog 36 #[.string (str text)] w (RetRd w (tableP wDigraph 62 false (opened (scanR text)))) := by
  rw [← refP_eq _ _ _ _ (opened_ok text)]
  obtain ⟨Z, hZ⟩ : ∃ Z, Z = refP wDigraph 62 false (opened (scanR text)) := ⟨_, rfl⟩
  rw [← hZ]
  have HZ := hid hZ
  have hop := hid (q_open text)
  have hok := hid (opened_ok text)
  unfold refP at HZ
  dsimp only at HZ
  generalize opened (scanR text) = s at *
  clear hZ
  have HTS := hid (head_ts hok.out wDigraph)
  go_enter Tryz.func36, Tryz.ntmps36
  go_wp2_with fail
  obtain ⟨W0, hW0⟩ : ∃ W : World, W = w.alloc (.cells #[.int .i64 0, .slice none 0 0] 61) := ⟨_, rfl⟩
  rw [← hW0]
  have HR := hid (show Blk W0 w.heap.size #[.int .i64 0, .slice none 0 0] 61 by rw [hW0]; exact Blk.new _ _ _)
  have HB0 := hid (show Below w.heap.size w W0 by rw [hW0]; exact (Below.refl _ _).alloc (Nat.le_refl _) _)
  clear hW0
  refine (hop.out W0).mono ?_
  rintro e w1 ⟨lv, rfl, ht, hB⟩
  obtain ⟨tb, htb1, htb2, hRk⟩ := Rk.new hok.out ht
  obtain ⟨la, lcap, rfl, _⟩ := ht
  have hst := (Below.refl w1.heap.size w1).alloc (Nat.le_refl _) (.cells #[.slice la s.ts.length lcap, .int .i64 0, .int .i64 s.e, .int .i64 s.pl] 107)
  have HK1 := hid hRk
  have HB1 := hid (up (up HB0.out hB) hst)
  have HR1 := hid ((HR.out.below hB).below hst)
  have HWB : Hid (w.heap.size < w1.heap.size) := by have := HR.out.lt; have := hB.size; show _ < _; omega
  clear hRk hop hB htb1 htb2 HB0 HR
  dsimp only
  go_upto_region 2 with fail
  clear hst
  generalize w1.alloc (.cells #[.slice la s.ts.length lcap, .int .i64 0, .int .i64 s.e, .int .i64 s.pl] 107) = W1 at *
  generalize w1.heap.size = b at *
  go_wp2_with fail
  refine (q_head W1 b tb s.ts s HK1.out wDigraph).mono ?_
  rintro e w2 ⟨rfl, hK2, hg2⟩
  have HK2 := hid hK2
  have HB2 : Hid (Below w.heap.size w w2) := HB1.out.grown hg2 HB1.out.size (fun q hq => by have := HWB.out; simp at hq; omega)
  have HR2 := hid (HR1.out.grown hg2 (fun e => by have := HWB.out; simp at e; omega))
  have hhk : (s.head wDigraph).2.e = 0 → 1 ≤ (s.head wDigraph).1 ∧ (s.head wDigraph).1 ≤ 12 := fun e => head_ok e
  have HHK := hid hhk
  clear hK2 hg2 HK1 HB1 HR1 hhk
  generalize s.head wDigraph = h at *
  obtain ⟨n, s1⟩ := h
  have HK2 : Hid (Rk w2 b tb s.ts s1) := HK2
  have HTS : Hid (TsOk s1.ts) := HTS
  have HHK : Hid (s1.e = 0 → 1 ≤ n ∧ n ≤ 12) := HHK
  have HZ : Hid (Z = if s1.e ≠ 0 then (⟨0, []⟩, s1.pl, s1.e) else if (tabG 62 false n s1.ts.length (fun _ _ => 0) s1).2.e ≠ 0 then (⟨0, []⟩, (tabG 62 false n s1.ts.length (fun _ _ => 0) s1).2.pl, (tabG 62 false n s1.ts.length (fun _ _ => 0) s1).2.e) else (⟨n, esOfM (tabG 62 false n s1.ts.length (fun _ _ => 0) s1).1 n.toNat⟩, 0, 0)) := HZ
  obtain ⟨_, _, _, _, _, _, _, _, _, _, _, _, d2, d3, _⟩ := HK2.out.cells
  have hbl := HK2.out.lt
  dsimp only
  by_cases he : s1.e = 0
  · rw [he] at d2
    have hz := HZ.out
    rw [if_neg (by rw [he]; simp)] at hz
    have HZ := hid hz
    obtain ⟨hn1, hn2⟩ := HHK.out he
    have HNN := hid (And.intro hn1 hn2)
    have hNt : ((n.toNat : Nat) : Int) = n := by omega
    obtain ⟨N, hN⟩ : ∃ N, n.toNat = N := ⟨_, rfl⟩
    rw [hN] at HZ hNt
    have HNT := hid hNt
    have HTQ := hid (q_table n N (by omega) (by omega) hn1 hn2 62 false s.ts s1 b tb w2 HK2.out)
    have HRL := hid (tab_eq 62 false n s1.ts.length [] (fun _ _ => 0) s1 HTS.out (RelM.nil n))
    clear hz he HHK d3 hn1 hn2 hNt hN
    generalize tabG 62 false n s1.ts.length (fun _ _ => 0) s1 = t at *
    obtain ⟨M, s2⟩ := t
    have HRM : Hid (s2.e = 0 → ∀ x y, 0 ≤ M x y ∧ M x y ≤ 50) := fun h => ((HRL.out.2 (by rw [← HRL.out.1]; exact h)).le)
    have HZ : Hid (Z = if s2.e ≠ 0 then (⟨0, []⟩, s2.pl, s2.e) else (⟨n, esOfM M N⟩, 0, 0)) := HZ
    clear HRL
    go_wp2_with fail
    refine HTQ.out.mono ?_
    rintro e w3 ⟨tv, bs, rfl, hM, hK3, hg3⟩
    have HM := hid hM
    have HK3 : Hid (Rk w3 b tb s.ts s2) := hK3
    have HB3 : Hid (Below w.heap.size w w3) := HB2.out.grown hg3 HB2.out.size (fun q hq => by have := HWB.out; simp at hq; omega)
    have HR3 := hid (HR2.out.grown hg3 (fun e => by have := HWB.out; simp at e; omega))
    obtain ⟨_, _, _, _, _, _, _, _, _, _, _, _, d2, d3, _⟩ := HK3.out.cells
    have hbl := HK3.out.lt
    clear hM hK3 hg3 HTQ HK2 HB2 HR2
    dsimp only
    by_cases he2 : s2.e = 0
    · rw [he2] at d2
      have HZ2 : Hid (Z = (⟨n, esOfM M N⟩, 0, 0)) := by have h := HZ.out; rw [if_neg (by rw [he2]; simp)] at h; exact h
      have HM0 := hid (HRM.out he2)
      have HNX : Hid ((N : Int) ≤ n ∧ n ≤ (N : Int) ∧ n ≤ 12 ∧ 0 < N) := by have := HNT.out; have := HNN.out; show _ ∧ _; omega
      obtain ⟨go, co, rfl, _, _⟩ := owns_some HM.out.outer HNX.out.2.2.2
      have hlen := esTo_len M N N 0
      rw [esTo_all] at hlen
      have hl2 : N * N + 0 ≤ 144 := by have h1 : N ≤ 12 := (by have := HNX.out; omega); have := Nat.mul_le_mul h1 h1; omega
      have HLE : Hid ((esOfM M N).length ≤ 144) := by show _ ≤ _; omega
      have hst := (Below.refl w3.heap.size w3).alloc (Nat.le_refl _) (.cells #[.int .i64 n, .slice none 0 0] 61)
      have HJ0 : Hid (JnI w3 (w3.alloc (.cells #[.int .i64 n, .slice none 0 0] 61)) w.heap.size w3.heap.size 61 n 147 (.slice none 0 0) (esTo M N 0 0)) :=
        ⟨HR3.out.below hst, HR3.out.lt, Blk.new _ _ _, World.ownsRow_nil _ _ _ _, hst, Nat.le_refl _⟩
      have HWT : Hid (∀ W', Below w3.heap.size w3 W' → ∀ a b : Nat, a < N → b < N → W'.cell? ⟨go, a, none⟩ = some (.slice (some ⟨bs a, 0, none⟩) N N) ∧ W'.cell? ⟨bs a, b, none⟩ = some (.int .i64 (M a b)) ∧ go < W'.heap.size ∧ bs a < W'.heap.size ∧ go < w3.heap.size ∧ bs a < w3.heap.size) := fun W' hB a b ha hb => by
        have h := HM.out.below hB
        exact ⟨h.at a ha, h.cell a b ha hb, (h.outer.lt go rfl).2, (h.lt a ha).2, (HM.out.outer.lt go rfl).2, (HM.out.lt a ha).2⟩
      clear HZ he2 hlen hl2 d3 hst HM HRM
      obtain ⟨i0, hi0, hz0, hz1, hz2⟩ := info_parts info_arc
      go_upto_region 9 with fail
      generalize w3.alloc (.cells #[.int .i64 n, .slice none 0 0] 61) = W0' at *
      clear d2 hbl
      go_wp2_with fail
      go_loopw [9] (fun i wr => ∃ (a : Nat) (ev : Value), a ≤ N ∧ i = .int .i64 a ∧ Hid (JnI w3 wr w.heap.size w3.heap.size 61 n 147 ev (esTo M N a 0))) (fun i _ => N - (intOf i).toNat)
      case atStart => exact ⟨0, _, Nat.zero_le _, rfl, HJ0⟩
      case round =>
        clear HJ0
        obtain ⟨a, ev, haN, rfl, HJ⟩ := hrel
        obtain ⟨W1, rfl⟩ : ∃ W : World, W = wr := ⟨_, rfl⟩
        have hNN := HNX.out
        by_cases haT : a < N
        · have ha1 : (a : Int) < n := by omega
          go_wp2_with fail
          go_loopw [10] (fun i wr => ∃ (b : Nat) (ev : Value), b ≤ N ∧ i = .int .i64 b ∧ Hid (JnI w3 wr w.heap.size w3.heap.size 61 n 147 ev (esTo M N a b))) (fun i _ => N - (intOf i).toNat)
          case atStart => exact ⟨0, ev, Nat.zero_le _, rfl, HJ⟩
          case round =>
            clear HJ
            obtain ⟨b, ev, hbN, rfl, HJ⟩ := hrel
            obtain ⟨W2, rfl⟩ : ∃ W : World, W = wr := ⟨_, rfl⟩
            by_cases hbT : b < N
            · have hb1 : (b : Int) < n := by omega
              have k1 : (0 : Int) ≤ (a : Int) := by omega
              have k2 : (0 : Int) ≤ (b : Int) := by omega
              have k3 : (a : Int) < (N : Int) := by omega
              have k4 : (b : Int) < (N : Int) := by omega
              obtain ⟨g0, g1, hgl, hbl, hgw, hbw⟩ := HWT.out W2 HJ.out.hB a b haT hbT
              have hs2 := esTo_succ M N a b
              have hm0 := HM0.out a b
              have hlen := esTo_len M N a b
              have hlen2 : a * N + b ≤ 1000 := by
                have : a * N ≤ 12 * 12 := Nat.mul_le_mul (by omega) (by omega)
                omega
              have HS2 := hid hs2
              generalize hmv : M (a : Int) (b : Int) = mv at *
              generalize hes : esTo M N a b = es at *
              generalize hbs : bs a = bi at *
              have HMV := hid hmv
              have HBS := hid hbs
              have HES := hid hes
              clear hs2 hmv hes hbs
              by_cases hp : 0 < mv
              · go_upto_region 16 with fail
                have q1 : W2.cell? ⟨w3.heap.size, 1, none⟩ = some ev := (HJ.out.bg.cell 1).trans rfl
                have hgl1 := HJ.out.bg.lt
                have HQ1 := hid q1
                have HG := hid (And.intro g0 g1)
                obtain ⟨ea, ecap, rfl, _⟩ := owns_at HJ.out.own
                let S : World → Prop := fun W' => W'.cell? ⟨w3.heap.size, 1, none⟩ = some (.slice ea es.length ecap) ∧ W'.cell? ⟨go, a, none⟩ = some (.slice (some ⟨bi, 0, none⟩) N N) ∧ W'.cell? ⟨bi, b, none⟩ = some (.int .i64 mv)
                (refine wp_region_text 15 [0,1,2,3,4,5,6,7,8,9,10,11,12,13,14] S (by kernel_rfl) (by kernel_rfl) (by intro _ _ d _ _ h; cases d <;> exact h) ?hS ?_; rotate_left; simp only [List.map_cons, List.map_nil, List.getD_cons_zero, List.getD_cons_succ, List.drop_succ_cons, List.drop_zero])
                case hS => exact ⟨q1, g0, g1⟩
                (repeat ((refine' wpSeq_take rfl _ (by rfl) ?_ ?_; rotate_left; focus (intro w' hS; (try dsimp only at hS); obtain ⟨s1, s2, s3⟩ := hS; go_simp; (first | done | with_reducible rfl)); (try simp only [Act.put, List.setIfInBounds_toArray, List.set_cons_zero, List.set_cons_succ])); (try simp only [Act.put, List.setIfInBounds_toArray, List.set_cons_zero, List.set_cons_succ])))
                refine wpSeq_call rfl (by rfl) (fun K hK => ?_)
                go_simp
                refine hK _ _ (show (W2.drew.alloc _).cell? _ = _ ∧ (W2.drew.alloc _).cell? _ = _ ∧ (W2.drew.alloc _).cell? _ = _ from ⟨(World.cell?_alloc_old _ _ _ (by simp; omega)).trans HQ1.out, (World.cell?_alloc_old _ _ _ (by simp; omega)).trans HG.out.1, (World.cell?_alloc_old _ _ _ (by simp; omega)).trans HG.out.2⟩) ?_
                clear hK K
                (try simp only [Act.put, List.setIfInBounds_toArray, List.set_cons_zero, List.set_cons_succ])
                (repeat ((refine' wpSeq_take rfl _ (by rfl) ?_ ?_; rotate_left; focus (intro w' hS; (try dsimp only at hS); obtain ⟨s1, s2, s3⟩ := hS; go_simp; (first | done | with_reducible rfl)); (try simp only [Act.put, List.setIfInBounds_toArray, List.set_cons_zero, List.set_cons_succ])); (try simp only [Act.put, List.setIfInBounds_toArray, List.set_cons_zero, List.set_cons_succ])))
                refine wpSeq_call rfl (by rfl) (fun K hK => ?_)
                refine wp_append_own _ _ _ 59 rfl (w3.heap.size + 1) 147 i0 (.agg #[.int .i64 0, .int .i64 0, .int .i64 0]) 3 24 und_arcs hi0 hz0 hz1 hz2 rfl (by decide) (.slice ea es.length ecap) es.length (es.flatMap E.cells) rfl (ownsRow_ad HJ.out.own _) ⟨W2.heap.size, 0, none⟩ 1 1 [.int .i64 a, .int .i64 b, .int .i64 mv] rfl rfl (fun j u h => trip_news W2 _ _ _ _ j u h) (by simp [Value.oneCell']) (by unfold maxLen; omega) (by omega) (by simp; omega) ?_
                intro v' w9 ho9 hg9 _
                obtain ⟨va, vc, rfl, _⟩ := owns_at ho9
                have hgT : W2.grownBy w9 (Value.slice ea es.length ecap).ownBlock := (grown_ad W2 _ _).trans hg9
                have hnb : ∀ k, (Value.slice ea es.length ecap).ownBlock = some k → w3.heap.size + 1 ≤ k := fun k hk => (HJ.out.own.lt k hk).1
                have HBG := hid (HJ.out.bg.grown hgT (fun e => by have := hnb _ e; omega))
                have HG9 : Hid (w9.cell? ⟨go, a, none⟩ = some (.slice (some ⟨bi, 0, none⟩) N N) ∧ w9.cell? ⟨bi, b, none⟩ = some (.int .i64 mv)) :=
                  ⟨(World.cell?_of_block (hgT.block go hgl (fun e => by have := hnb _ e.symm; omega))).trans HG.out.1, (World.cell?_of_block (hgT.block bi hbl (fun e => by have := hnb _ e.symm; omega))).trans HG.out.2⟩
                have q9 : w9.cell? ⟨w3.heap.size, 1, none⟩ = some (.slice ea es.length ecap) := (HBG.out.cell 1).trans rfl
                have HQ9 := hid q9
                have HJ9 := hid (HJ.out.push (es' := es ++ [⟨a, b, mv⟩]) (w' := w9) (by rw [List.flatMap_append, List.length_append]; exact ho9) hgT)
                have f9 := HBG.out.frozen 1
                have l9 := HBG.out.lt
                refine hK _ _ ⟨HQ9.out, HG9.out.1, HG9.out.2⟩ ?_
                clear hK K
                (try simp only [Act.put, List.setIfInBounds_toArray, List.set_cons_zero, List.set_cons_succ])
                (repeat ((refine' wpSeq_take rfl _ (by rfl) ?_ ?_; rotate_left; focus (intro w' hS; (try dsimp only at hS); obtain ⟨s1, s2, s3⟩ := hS; go_simp; (first | done | with_reducible rfl)); (try simp only [Act.put, List.setIfInBounds_toArray, List.set_cons_zero, List.set_cons_succ])); (try simp only [Act.put, List.setIfInBounds_toArray, List.set_cons_zero, List.set_cons_succ])))
                refine wpSeq_nil ?_
                clear S hgT hnb ho9 hg9 q1 hgl1 g0 g1 hgl hbl
                go_wp2_with fail
                go_roundw
                case rel =>
                  refine ⟨b + 1, .slice va (es.length + 1) vc, by omega, by go_num, ?_⟩
                  show JnI _ _ _ _ _ _ _ _ _
                  rw [HS2.out, if_neg (by omega)]
                  exact HJ9.out
                case measure => simp [intOf]; omega
              · have hp2 : mv = 0 := by omega
                go_wp2_with fail
                go_roundw
                case rel =>
                  refine ⟨b + 1, ev, by omega, by go_num, ?_⟩
                  show JnI _ _ _ _ _ _ _ _ _
                  rw [HS2.out, if_pos hp2, List.append_nil]
                  exact HJ.out
                case measure => simp [intOf]; omega
            · obtain rfl : b = N := by omega
              have hb1 : ¬ ((b : Nat) : Int) < n := by omega
              rw [esTo_row] at HJ
              go_wp2_with fail
              go_roundw
              case rel => exact ⟨a + 1, ev, by omega, by go_num, HJ⟩
              case measure => simp [intOf]; omega
        · obtain rfl : a = N := by omega
          have ha1 : ¬ ((a : Nat) : Int) < n := by omega
          rw [esTo_all] at HJ
          go_upto_region 17 with fail
          obtain ⟨ea, ecap, rfl, _⟩ := owns_at HJ.out.own
          have g0 : W1.cell? ⟨w3.heap.size, 0, none⟩ = some (.int .i64 n) := (HJ.out.bg.cell 0).trans rfl
          have g1 : W1.cell? ⟨w3.heap.size, 1, none⟩ = some (.slice ea (esOfM M a).length ecap) := (HJ.out.bg.cell 1).trans rfl
          have gl := HJ.out.bg.lt
          have r0 : W1.cell? ⟨w.heap.size, 0, none⟩ = some (.int .i64 0) := (HJ.out.br.cell 0).trans rfl
          have r1 : W1.cell? ⟨w.heap.size, 1, none⟩ = some (.slice none 0 0) := (HJ.out.br.cell 1).trans rfl
          have f0 := HJ.out.br.frozen 0
          have f1 := HJ.out.br.frozen 1
          have rl := HJ.out.br.lt
          have hRlt := HJ.out.hR
          go_wp2_with fail
          have HR5 := hid ((HJ.out.br.set 0 (.int .i64 n)).set 1 (.slice ea (esOfM M a).length ecap))
          rw [HZ2.out]
          refine bodyPost_ret (results_cell3 rfl rfl (load_dg rfl HR5.out)) rfl ⟨_, rfl, ⟨_, rfl, ?_⟩, ?_⟩
          · exact owns_edges (kept_row (kept_row HJ.out.own (grown_set _ _ _ _) (hnk _ HJ.out.own (by omega))) (grown_set _ _ _ _) (hnk _ HJ.out.own (by omega))) (show (esOfM M a).length * 24 ≤ 140737488355328 by have := HLE.out; omega)
          · exact ((up HB3.out HJ.out.hB).setCell (Nat.le_refl _) _).setCell (Nat.le_refl _) _
    · skip
      have HZ2 : Hid (Z = (⟨0, []⟩, s2.pl, s2.e)) := by have h := HZ.out; rw [if_pos he2] at h; exact h
      have he1 : (s2.e != 0) = true := by simpa using he2
      have HC := hid (And.intro d2 d3)
      clear HZ he2
      go_upto_region 7 with fail
      clear d2 d3
      have r0 := HR3.out.cell 0
      have r1 := HR3.out.cell 1
      simp only [List.getElem?_toArray, List.getElem?_cons_zero, List.getElem?_cons_succ] at r0 r1
      have hne : b ≠ w.heap.size := by have := HWB.out; omega
      let S : World → Prop := fun W' => W'.cell? ⟨b, 2, none⟩ = some (.int .i64 s2.e) ∧ W'.cell? ⟨b, 3, none⟩ = some (.int .i64 s2.pl)
      (refine wp_region_text 7 [0,1,2,3,4,5,6] S (by kernel_rfl) (by kernel_rfl) (by intro _ _ d _ _ h; cases d <;> exact h) ?hS ?_; rotate_left; simp only [List.map_cons, List.map_nil, List.getD_cons_zero, List.getD_cons_succ, List.drop_succ_cons, List.drop_zero])
      case hS => exact HC.out
      (repeat ((refine' wpSeq_take rfl _ (by rfl) ?_ ?_; rotate_left; focus (intro w' hS; (try dsimp only at hS); obtain ⟨s1, s2⟩ := hS; go_simp; (first | done | with_reducible rfl)); (try simp only [Act.put, List.setIfInBounds_toArray, List.set_cons_zero, List.set_cons_succ])); (try simp only [Act.put, List.setIfInBounds_toArray, List.set_cons_zero, List.set_cons_succ])))
      refine wpSeq_call rfl (by rfl) (fun K hK => ?_)
      have r0' : (w3.drew).cell? ⟨w.heap.size, 0, none⟩ = some (.int .i64 0) := r0
      have r1' : (w3.drew).cell? ⟨w.heap.size, 1, none⟩ = some (.slice none 0 0) := r1
      have f0 : (w3.drew).frozen? ⟨w.heap.size, 0, none⟩ = false := HR3.out.frozen 0
      have f1 : (w3.drew).frozen? ⟨w.heap.size, 1, none⟩ = false := HR3.out.frozen 1
      have rl : w.heap.size < (w3.drew).heap.size := HR3.out.lt
      have g0 := HR3.out.frozen 0
      have g1 := HR3.out.frozen 1
      have hS3 : S (((w3.setCell ⟨w.heap.size, 0, none⟩ (.int .i64 0)).setCell ⟨w.heap.size, 1, none⟩ (.slice none 0 0)).drew) := by
        constructor
        · show World.cell? (World.setCell (World.setCell _ _ _) _ _) _ = _
          rw [World.cell?_setCell_far _ _ _ _ (fun e => hne e.symm), World.cell?_setCell_far _ _ _ _ (fun e => hne e.symm)]; exact HC.out.1
        · show World.cell? (World.setCell (World.setCell _ _ _) _ _) _ = _
          rw [World.cell?_setCell_far _ _ _ _ (fun e => hne e.symm), World.cell?_setCell_far _ _ _ _ (fun e => hne e.symm)]; exact HC.out.2
      go_simp
      refine hK _ _ hS3 ?_
      clear hK K
      (try simp only [Act.put, List.setIfInBounds_toArray, List.set_cons_zero, List.set_cons_succ])
      (repeat ((refine' wpSeq_take rfl _ (by rfl) ?_ ?_; rotate_left; focus (intro w' hS; (try dsimp only at hS); obtain ⟨s1, s2⟩ := hS; go_simp; (first | done | with_reducible rfl)); (try simp only [Act.put, List.setIfInBounds_toArray, List.set_cons_zero, List.set_cons_succ])); (try simp only [Act.put, List.setIfInBounds_toArray, List.set_cons_zero, List.set_cons_succ])))
      refine wpSeq_nil ?_
      have HR9 := hid ((HR3.out.set 0 (.int .i64 0)).set 1 (.slice none 0 0))
      clear hS3 S r0 r1 r0' r1' f0 f1 g0 g1
      go_wp2_with fail
      rw [HZ2.out]
      refine bodyPost_ret (results_cell3 rfl rfl (load_dg rfl (Blk.drew HR9.out))) rfl ⟨_, rfl, gr_zero _, ?_⟩
      exact (((HB3.out.setCell (Nat.le_refl _) _).setCell (Nat.le_refl _) _).drew)
  · skip
    have HZ2 : Hid (Z = (⟨0, []⟩, s1.pl, s1.e)) := by have h := HZ.out; rw [if_pos he] at h; exact h
    have he1 : (s1.e != 0) = true := by simpa using he
    have HC := hid (And.intro d2 d3)
    clear HZ he
    go_upto_region 4 with fail
    clear d2 d3
    have r0 := HR2.out.cell 0
    have r1 := HR2.out.cell 1
    simp only [List.getElem?_toArray, List.getElem?_cons_zero, List.getElem?_cons_succ] at r0 r1
    have hne : b ≠ w.heap.size := by have := HWB.out; omega
    let S : World → Prop := fun W' => W'.cell? ⟨b, 2, none⟩ = some (.int .i64 s1.e) ∧ W'.cell? ⟨b, 3, none⟩ = some (.int .i64 s1.pl)
    (refine wp_region_text 7 [0,1,2,3,4,5,6] S (by kernel_rfl) (by kernel_rfl) (by intro _ _ d _ _ h; cases d <;> exact h) ?hS ?_; rotate_left; simp only [List.map_cons, List.map_nil, List.getD_cons_zero, List.getD_cons_succ, List.drop_succ_cons, List.drop_zero])
    case hS => exact HC.out
    (repeat ((refine' wpSeq_take rfl _ (by rfl) ?_ ?_; rotate_left; focus (intro w' hS; (try dsimp only at hS); obtain ⟨s1, s2⟩ := hS; go_simp; (first | done | with_reducible rfl)); (try simp only [Act.put, List.setIfInBounds_toArray, List.set_cons_zero, List.set_cons_succ])); (try simp only [Act.put, List.setIfInBounds_toArray, List.set_cons_zero, List.set_cons_succ])))
    refine wpSeq_call rfl (by rfl) (fun K hK => ?_)
    have r0' : (w2.drew).cell? ⟨w.heap.size, 0, none⟩ = some (.int .i64 0) := r0
    have r1' : (w2.drew).cell? ⟨w.heap.size, 1, none⟩ = some (.slice none 0 0) := r1
    have f0 : (w2.drew).frozen? ⟨w.heap.size, 0, none⟩ = false := HR2.out.frozen 0
    have f1 : (w2.drew).frozen? ⟨w.heap.size, 1, none⟩ = false := HR2.out.frozen 1
    have rl : w.heap.size < (w2.drew).heap.size := HR2.out.lt
    have g0 := HR2.out.frozen 0
    have g1 := HR2.out.frozen 1
    have hS3 : S (((w2.setCell ⟨w.heap.size, 0, none⟩ (.int .i64 0)).setCell ⟨w.heap.size, 1, none⟩ (.slice none 0 0)).drew) := by
      constructor
      · show World.cell? (World.setCell (World.setCell _ _ _) _ _) _ = _
        rw [World.cell?_setCell_far _ _ _ _ (fun e => hne e.symm), World.cell?_setCell_far _ _ _ _ (fun e => hne e.symm)]; exact HC.out.1
      · show World.cell? (World.setCell (World.setCell _ _ _) _ _) _ = _
        rw [World.cell?_setCell_far _ _ _ _ (fun e => hne e.symm), World.cell?_setCell_far _ _ _ _ (fun e => hne e.symm)]; exact HC.out.2
    go_simp
    refine hK _ _ hS3 ?_
    clear hK K
    (try simp only [Act.put, List.setIfInBounds_toArray, List.set_cons_zero, List.set_cons_succ])
    (repeat ((refine' wpSeq_take rfl _ (by rfl) ?_ ?_; rotate_left; focus (intro w' hS; (try dsimp only at hS); obtain ⟨s1, s2⟩ := hS; go_simp; (first | done | with_reducible rfl)); (try simp only [Act.put, List.setIfInBounds_toArray, List.set_cons_zero, List.set_cons_succ])); (try simp only [Act.put, List.setIfInBounds_toArray, List.set_cons_zero, List.set_cons_succ])))
    refine wpSeq_nil ?_
    have HR9 := hid ((HR2.out.set 0 (.int .i64 0)).set 1 (.slice none 0 0))
    clear hS3 S r0 r1 r0' r1' f0 f1 g0 g1
    go_wp2_with fail
    rw [HZ2.out]
    refine bodyPost_ret (results_cell3 rfl rfl (load_dg rfl (Blk.drew HR9.out))) rfl ⟨_, rfl, gr_zero _, ?_⟩
    exact (((HB2.out.setCell (Nat.le_refl _) _).setCell (Nat.le_refl _) _).drew)

end Go.Proofs.YtemmepgfngkgmaaGreatDoor
