/-
  The reference: Joined.
-/
import Derived.Test.YtemmepgfngkgmaaGreatDoorN39
namespace Go.Proofs.YtemmepgfngkgmaaGreatDoor
open Go.RowKit
set_option linter.unusedVariables false
set_option linter.unusedSimpArgs false

/-- The row of a table up to a column. -/
def rowTo (M : Int → Int → Int) (a : Nat) (b : Nat) : List E := (List.range b).flatMap fun (b : Nat) => if M (a : Int) (b : Int) = 0 then [] else [⟨(a : Int), (b : Int), M (a : Int) (b : Int)⟩]
/-- All rows ahead of one, and the beginning of that. -/
def esTo (M : Int → Int → Int) (n a b : Nat) : List E := ((List.range a).flatMap fun a => rowOfM M a n) ++ rowTo M a b
theorem rowTo_succ (M : Int → Int → Int) (a b : Nat) : rowTo M a (b + 1) = rowTo M a b ++ (if M a b = 0 then [] else [⟨a, b, M a b⟩]) := by
  unfold rowTo
  rw [List.range_succ, List.flatMap_append]
  simp
theorem esTo_succ (M : Int → Int → Int) (n a b : Nat) : esTo M n a (b + 1) = esTo M n a b ++ (if M a b = 0 then [] else [⟨a, b, M a b⟩]) := by
  unfold esTo
  rw [rowTo_succ, List.append_assoc]
theorem esTo_row (M : Int → Int → Int) (n a : Nat) : esTo M n a n = esTo M n (a + 1) 0 := by
  unfold esTo
  rw [List.range_succ, List.flatMap_append]
  show _ = (_ ++ _) ++ rowTo M (a + 1) 0
  have e1 : rowTo M (a + 1) 0 = [] := rfl
  rw [e1, List.append_nil]
  simp only [List.flatMap_cons, List.flatMap_nil, List.append_nil]
  rfl
theorem esTo_all (M : Int → Int → Int) (n : Nat) : esTo M n n 0 = esOfM M n := by
  unfold esTo esOfM
  have e1 : rowTo M n 0 = [] := rfl
  rw [e1, List.append_nil]
theorem rowTo_none (M : Int → Int → Int) (a : Nat) : ∀ b, (∀ y : Nat, y < b → M a y = 0) → rowTo M a b = []
  | 0, _ => rfl
  | b + 1, h => by rw [rowTo_succ, rowTo_none M a b (fun y hy => h y (by omega)), if_pos (h b (by omega))]; rfl
theorem esTo_diag (M : Int → Int → Int) (n a : Nat) (h : ∀ x y : Int, y < x → M x y = 0) : esTo M n a 0 = esTo M n a a := by
  unfold esTo
  rw [rowTo_none M a a (fun y hy => h a y (by omega))]
  rfl
theorem rowOfM_len (M : Int → Int → Int) (a : Nat) : ∀ n, (rowTo M a n).length ≤ n
  | 0 => Nat.le_refl _
  | n + 1 => by
    have := rowOfM_len M a n
    rw [rowTo_succ, List.length_append]
    split <;> simp <;> omega
theorem esTo_len (M : Int → Int → Int) (n : Nat) : ∀ a b, (esTo M n a b).length ≤ a * n + b
  | 0, b => by
    have := rowOfM_len M 0 b
    unfold esTo
    simpa using this
  | a + 1, b => by
    have h1 := esTo_len M n a n
    rw [esTo_row] at h1
    have h2 := rowOfM_len M (a + 1) b
    have e : esTo M n (a + 1) b = esTo M n (a + 1) 0 ++ rowTo M (a + 1) b := by
      unfold esTo
      have e1 : rowTo M (a + 1) 0 = [] := rfl
      rw [e1, List.append_nil]
    rw [e, List.length_append, Nat.add_mul]
    omega

/-- While the edges of a table are laid in a row. -/
structure JnI (w0 w : World) (R G : Nat) (T : TypeId) (n : Int) (eT : TypeId) (v : Value) (es : List E) : Prop where
  br : Blk w R #[.int .i64 0, .slice none 0 0] T
  hR : R < G
  bg : Blk w G #[.int .i64 n, v] T
  own : w.ownsRow (G + 1) eT 3 v es.length (es.flatMap E.cells)
  hB : Below w0.heap.size w0 w
  h0 : w0.heap.size ≤ G
section
variable {w0 w w' : World} {R G : Nat} {T eT : TypeId} {n : Int} {v v' : Value} {es es' : List E}
theorem JnI.below (h : JnI w0 w R G T n eT v es) (hB : Below w.heap.size w w') : JnI w0 w' R G T n eT v es := ⟨h.br.below hB, h.hR, h.bg.below hB, owns_below h.own hB, up h.hB hB, h.h0⟩
theorem JnI.push (h : JnI w0 w R G T n eT v es) (ho : w'.ownsRow (G + 1) eT 3 v' es'.length (es'.flatMap E.cells)) (hg : w.grownBy w' v.ownBlock) : JnI w0 (w'.setCell ⟨G, 1, none⟩ v') R G T n eT v' es' := by
  have hlt : ∀ k, v.ownBlock = some k → G + 1 ≤ k := fun k hk => (h.own.lt k hk).1
  have hb := h.bg.grown hg (fun e => by have := hlt _ e; omega)
  have hb2 := hb.set 1 v'
  have hr := (h.br.grown hg (fun e => by have := hlt _ e; have := h.hR; omega)).other (show R ≠ G from by have := h.hR; omega) 1 v'
  refine ⟨hr, h.hR, by simpa using hb2, kept_row ho (grown_set _ _ _ _) (fun k hk e => by have := (ho.lt k hk).1; simp at e; omega), ?_, h.h0⟩
  exact (h.hB.grown hg h.hB.size (fun q hq => by have := hlt q hq; have := h.h0; omega)).setCell h.h0 _
end

set_option maxRecDepth 100000 in
set_option maxHeartbeats 8000000 in
theorem q_Joined (n : Int) (N : Nat) (hN1 : (N : Int) ≤ n) (hN2 : n ≤ (N : Int)) (hn : n ≤ 12) (M : Int → Int → Int) (hM0 : ∀ x y, 0 ≤ M x y ∧ M x y ≤ 50) (hMd : ∀ x y : Int, y < x → M x y = 0) (v : Value) (bs : Nat → Nat) (base : Nat) (w : World) (hM : OwnM 50 3 w base v N N bs (natM M)) (hpos : 0 < N) :
    Calls Tryz.prog 54 #[.int .i64 n, v] w fun e w' => ∃ ev, e = .returned (.agg #[.int .i64 n, ev]) ∧ w'.ownsRow w.heap.size 82 3 ev (esOfM M N).length ((esOfM M N).flatMap E.cells) ∧ Below w.heap.size w w' := by
  obtain ⟨i0, hi0, hz0, hz1, hz2⟩ := info_parts info_edge
  have HNN := hid (And.intro hN1 (And.intro hN2 hn))
  have HM0 := hid hM0
  have HMD := hid hMd
  obtain ⟨go, co, rfl, _, _⟩ := owns_some hM.outer hpos
  have HM := hid hM
  have hB0 : Below w.heap.size w ((w.alloc (.cells #[.int .i64 0, .slice none 0 0] 24)).alloc (.cells #[.int .i64 n, .slice none 0 0] 24)) := ((Below.refl w.heap.size w).alloc (Nat.le_refl _) _).alloc (by simp) _
  have HR0 := hid ((Blk.new w #[.int .i64 0, .slice none 0 0] 24).alloc (.cells #[.int .i64 n, .slice none 0 0] 24))
  have HG0 := Blk.new (w.alloc (.cells #[.int .i64 0, .slice none 0 0] 24)) #[.int .i64 n, .slice none 0 0] 24
  rw [World.size_alloc] at HG0
  have HJ0 : Hid (JnI w ((w.alloc (.cells #[.int .i64 0, .slice none 0 0] 24)).alloc (.cells #[.int .i64 n, .slice none 0 0] 24)) w.heap.size (w.heap.size + 1) 24 n 82 (.slice none 0 0) (esTo M N 0 0)) :=
    ⟨HR0.out, by omega, HG0, World.ownsRow_nil _ _ _ _, hB0, by omega⟩
  clear hM hB0 HG0 hM0 hMd
  go_enter Tryz.func54, Tryz.ntmps54
  go_upto_region 2 with fail
  generalize (w.alloc (.cells #[.int .i64 0, .slice none 0 0] 24)).alloc (.cells #[.int .i64 n, .slice none 0 0] 24) = W0 at *
  have HWT : Hid (∀ W', Below w.heap.size w W' → ∀ a b : Nat, a < N → b < N → W'.cell? ⟨go, a, none⟩ = some (.slice (some ⟨bs a, 0, none⟩) N N) ∧ W'.cell? ⟨bs a, b, none⟩ = some (.int .i64 (M a b)) ∧ go < W'.heap.size ∧ bs a < W'.heap.size ∧ go < w.heap.size ∧ bs a < w.heap.size) := fun W' hB a b ha hb => by
    have h := HM.out.below hB
    exact ⟨h.at a ha, h.cell a b ha hb, (h.outer.lt go rfl).2, (h.lt a ha).2, (HM.out.outer.lt go rfl).2, (HM.out.lt a ha).2⟩
  clear HM
  go_wp2_with fail
  go_loopw [6] (fun i wr => ∃ (a : Nat) (ev : Value), a ≤ N ∧ i = .int .i64 a ∧ Hid (JnI w wr w.heap.size (w.heap.size + 1) 24 n 82 ev (esTo M N a 0))) (fun i _ => N - (intOf i).toNat)
  case atStart => exact ⟨0, _, Nat.zero_le _, rfl, HJ0⟩
  case round =>
    clear HJ0
    obtain ⟨a, ev, haN, rfl, HJ⟩ := hrel
    obtain ⟨W1, rfl⟩ : ∃ W : World, W = wr := ⟨_, rfl⟩
    have hNN := HNN.out
    by_cases haT : a < N
    · have ha1 : (a : Int) < n := by omega
      rw [esTo_diag M N a HMD.out] at HJ
      go_wp2_with fail
      go_loopw [7] (fun i wr => ∃ (b : Nat) (ev : Value), b ≤ N ∧ i = .int .i64 b ∧ Hid (JnI w wr w.heap.size (w.heap.size + 1) 24 n 82 ev (esTo M N a b))) (fun i _ => N - (intOf i).toNat)
      case atStart => exact ⟨a, ev, haN, rfl, HJ⟩
      case round =>
        clear HJ
        obtain ⟨b, ev, hbN, rfl, HJ⟩ := hrel
        obtain ⟨W2, rfl⟩ : ∃ W : World, W = wr := ⟨_, rfl⟩
        by_cases hbT : b < N
        · have hb1 : (b : Int) < n := by omega
          have k1 : (0 : Int) ≤ (a : Int) := by omega
          have k2 : (0 : Int) ≤ (b : Int) := by omega
          have k3 : (a : Int) < (N : Int) := by omega
          have k4 : (b : Int) < (N : Int) := by omega
          obtain ⟨g0, g1, hgl, hbl, hgw, hbw⟩ := HWT.out W2 HJ.out.hB a b haT hbT
          have hs2 := esTo_succ M N a b
          have hm0 := HM0.out a b
          have hlen := esTo_len M N a b
          have hlen2 : a * N + b ≤ 1000 := by
            have : a * N ≤ 12 * 12 := Nat.mul_le_mul (by omega) (by omega)
            omega
          have HS2 := hid hs2
          generalize hmv : M (a : Int) (b : Int) = mv at *
          generalize hes : esTo M N a b = es at *
          generalize hbs : bs a = bi at *
          have HMV := hid hmv
          have HBS := hid hbs
          have HES := hid hes
          clear hs2 hmv hes hbs
          by_cases hp : 0 < mv
          · go_upto_region 9 with fail
            have q1 : W2.cell? ⟨w.heap.size + 1, 1, none⟩ = some ev := (HJ.out.bg.cell 1).trans rfl
            have hgl1 := HJ.out.bg.lt
            have HQ1 := hid q1
            have HG := hid (And.intro g0 g1)
            obtain ⟨ea, ecap, rfl, _⟩ := owns_at HJ.out.own
            let S : World → Prop := fun W' => W'.cell? ⟨w.heap.size + 1, 1, none⟩ = some (.slice ea es.length ecap) ∧ W'.cell? ⟨go, a, none⟩ = some (.slice (some ⟨bi, 0, none⟩) N N) ∧ W'.cell? ⟨bi, b, none⟩ = some (.int .i64 mv)
            (refine wp_region_text 15 [0,1,2,3,4,5,6,7,8,9,10,11,12,13,14] S (by kernel_rfl) (by kernel_rfl) (by intro _ _ d _ _ h; cases d <;> exact h) ?hS ?_; rotate_left; simp only [List.map_cons, List.map_nil, List.getD_cons_zero, List.getD_cons_succ, List.drop_succ_cons, List.drop_zero])
            case hS => exact ⟨q1, g0, g1⟩
            (repeat ((refine' wpSeq_take rfl _ (by rfl) ?_ ?_; rotate_left; focus (intro w' hS; (try dsimp only at hS); obtain ⟨s1, s2, s3⟩ := hS; go_simp; (first | done | with_reducible rfl)); (try simp only [Act.put, List.setIfInBounds_toArray, List.set_cons_zero, List.set_cons_succ])); (try simp only [Act.put, List.setIfInBounds_toArray, List.set_cons_zero, List.set_cons_succ])))
            refine wpSeq_call rfl (by rfl) (fun K hK => ?_)
            go_simp
            refine hK _ _ (show (W2.drew.alloc _).cell? _ = _ ∧ (W2.drew.alloc _).cell? _ = _ ∧ (W2.drew.alloc _).cell? _ = _ from ⟨(World.cell?_alloc_old _ _ _ (by simp; omega)).trans HQ1.out, (World.cell?_alloc_old _ _ _ (by simp; omega)).trans HG.out.1, (World.cell?_alloc_old _ _ _ (by simp; omega)).trans HG.out.2⟩) ?_
            clear hK K
            (try simp only [Act.put, List.setIfInBounds_toArray, List.set_cons_zero, List.set_cons_succ])
            (repeat ((refine' wpSeq_take rfl _ (by rfl) ?_ ?_; rotate_left; focus (intro w' hS; (try dsimp only at hS); obtain ⟨s1, s2, s3⟩ := hS; go_simp; (first | done | with_reducible rfl)); (try simp only [Act.put, List.setIfInBounds_toArray, List.set_cons_zero, List.set_cons_succ])); (try simp only [Act.put, List.setIfInBounds_toArray, List.set_cons_zero, List.set_cons_succ])))
            refine wpSeq_call rfl (by rfl) (fun K hK => ?_)
            refine wp_append_own _ _ _ 22 rfl (w.heap.size + 1 + 1) 82 i0 (.agg #[.int .i64 0, .int .i64 0, .int .i64 0]) 3 24 und_edges hi0 hz0 hz1 hz2 rfl (by decide) (.slice ea es.length ecap) es.length (es.flatMap E.cells) rfl (ownsRow_ad HJ.out.own _) ⟨W2.heap.size, 0, none⟩ 1 1 [.int .i64 a, .int .i64 b, .int .i64 mv] rfl rfl (fun j u h => trip_news W2 _ _ _ _ j u h) (by simp [Value.oneCell']) (by unfold maxLen; omega) (by omega) (by simp; omega) ?_
            intro v' w9 ho9 hg9 _
            obtain ⟨va, vc, rfl, _⟩ := owns_at ho9
            have hgT : W2.grownBy w9 (Value.slice ea es.length ecap).ownBlock := (grown_ad W2 _ _).trans hg9
            have hnb : ∀ k, (Value.slice ea es.length ecap).ownBlock = some k → w.heap.size + 1 + 1 ≤ k := fun k hk => (HJ.out.own.lt k hk).1
            have HBG := hid (HJ.out.bg.grown hgT (fun e => by have := hnb _ e; omega))
            have HG9 : Hid (w9.cell? ⟨go, a, none⟩ = some (.slice (some ⟨bi, 0, none⟩) N N) ∧ w9.cell? ⟨bi, b, none⟩ = some (.int .i64 mv)) :=
              ⟨(World.cell?_of_block (hgT.block go hgl (fun e => by have := hnb _ e.symm; omega))).trans HG.out.1, (World.cell?_of_block (hgT.block bi hbl (fun e => by have := hnb _ e.symm; omega))).trans HG.out.2⟩
            have q9 : w9.cell? ⟨w.heap.size + 1, 1, none⟩ = some (.slice ea es.length ecap) := (HBG.out.cell 1).trans rfl
            have HQ9 := hid q9
            have HJ9 := hid (HJ.out.push (es' := es ++ [⟨a, b, mv⟩]) (w' := w9) (by rw [List.flatMap_append, List.length_append]; exact ho9) hgT)
            have f9 := HBG.out.frozen 1
            have l9 := HBG.out.lt
            refine hK _ _ ⟨HQ9.out, HG9.out.1, HG9.out.2⟩ ?_
            clear hK K
            (try simp only [Act.put, List.setIfInBounds_toArray, List.set_cons_zero, List.set_cons_succ])
            (repeat ((refine' wpSeq_take rfl _ (by rfl) ?_ ?_; rotate_left; focus (intro w' hS; (try dsimp only at hS); obtain ⟨s1, s2, s3⟩ := hS; go_simp; (first | done | with_reducible rfl)); (try simp only [Act.put, List.setIfInBounds_toArray, List.set_cons_zero, List.set_cons_succ])); (try simp only [Act.put, List.setIfInBounds_toArray, List.set_cons_zero, List.set_cons_succ])))
            refine wpSeq_nil ?_
            clear S hgT hnb ho9 hg9 q1 hgl1 g0 g1 hgl hbl
            go_wp2_with fail
            go_roundw
            case rel =>
              refine ⟨b + 1, .slice va (es.length + 1) vc, by omega, by go_num, ?_⟩
              show JnI _ _ _ _ _ _ _ _ _
              rw [HS2.out, if_neg (by omega)]
              exact HJ9.out
            case measure => simp [intOf]; omega
          · have hp2 : mv = 0 := by omega
            go_wp2_with fail
            go_roundw
            case rel =>
              refine ⟨b + 1, ev, by omega, by go_num, ?_⟩
              show JnI _ _ _ _ _ _ _ _ _
              rw [HS2.out, if_pos hp2, List.append_nil]
              exact HJ.out
            case measure => simp [intOf]; omega
        · obtain rfl : b = N := by omega
          have hb1 : ¬ ((b : Nat) : Int) < n := by omega
          rw [esTo_row] at HJ
          go_wp2_with fail
          go_roundw
          case rel => exact ⟨a + 1, ev, by omega, by go_num, HJ⟩
          case measure => simp [intOf]; omega
    · obtain rfl : a = N := by omega
      have ha1 : ¬ ((a : Nat) : Int) < n := by omega
      rw [esTo_all] at HJ
      go_upto_region 10 with fail
      obtain ⟨ea, ecap, rfl, _⟩ := owns_at HJ.out.own
      have g0 : W1.cell? ⟨w.heap.size + 1, 0, none⟩ = some (.int .i64 n) := (HJ.out.bg.cell 0).trans rfl
      have g1 : W1.cell? ⟨w.heap.size + 1, 1, none⟩ = some (.slice ea (esOfM M a).length ecap) := (HJ.out.bg.cell 1).trans rfl
      have gl := HJ.out.bg.lt
      have r0 : W1.cell? ⟨w.heap.size, 0, none⟩ = some (.int .i64 0) := (HJ.out.br.cell 0).trans rfl
      have r1 : W1.cell? ⟨w.heap.size, 1, none⟩ = some (.slice none 0 0) := (HJ.out.br.cell 1).trans rfl
      have f0 := HJ.out.br.frozen 0
      have f1 := HJ.out.br.frozen 1
      have rl := HJ.out.br.lt
      go_wp2_with fail
      have HR5 := hid ((HJ.out.br.set 0 (.int .i64 n)).set 1 (.slice ea (esOfM M a).length ecap))
      refine bodyPost_ret (results_cell1' rfl rfl (load_gr rfl HR5.out)) rfl ⟨_, rfl, ?_, ?_⟩
      · exact owns_base (kept_row (kept_row HJ.out.own (grown_set _ _ _ _) (hnk _ HJ.out.own (by omega))) (grown_set _ _ _ _) (hnk _ HJ.out.own (by omega))) (by omega)
      · exact (HJ.out.hB.setCell (Nat.le_refl _) _).setCell (Nat.le_refl _) _

end Go.Proofs.YtemmepgfngkgmaaGreatDoor
