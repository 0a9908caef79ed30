/-
  graph.joined, the graph of a bag, Make.
-/
import Derived.Test.YtemmepgfngkgmaaGreatDoorNo1
import Derived.Test.YtemmepgfngkgmaaGreatDoorNo3
namespace Go.Proofs.YtemmepgfngkgmaaGreatDoor
open Go.RowKit Go.Maps
set_option linter.unusedVariables false
set_option linter.unusedSimpArgs false

theorem load_pairV {w : World} {b : Nat} {v0 v1 : Value} (h : Blk w b #[v0, v1] 156) : (loadVar 156 ⟨b, 0, none⟩).run Tryz.prog w = .ok (.agg #[v0, v1]) w := by
  have hlt := h.lt
  have c0 := h.cell 0
  have c1 := h.cell 1
  simp only [List.getElem?_toArray, List.getElem?_cons_zero, List.getElem?_cons_succ] at c0 c1
  go_simp
set_option maxRecDepth 100000 in
theorem g_joined (a b : Int) (w : World) : Calls Tryz.prog 94 #[.int .i64 a, .int .i64 b] w fun e w' => e = .returned (pairV (min a b) (max a b)) ∧ Below w.heap.size w w' := by
  have HR := hid (Blk.new w #[.int .i64 0, .int .i64 0] 156)
  have HB := hid ((Below.refl w.heap.size w).alloc (Nat.le_refl _) (.cells #[.int .i64 0, .int .i64 0] 156))
  obtain ⟨x, hx⟩ : ∃ x, x = min a b := ⟨_, rfl⟩
  obtain ⟨y, hy⟩ : ∃ y, y = max a b := ⟨_, rfl⟩
  go_enter Tryz.func94, Tryz.ntmps94
  go_upto_region 1 with fail
  generalize w.alloc (.cells #[.int .i64 0, .int .i64 0] 156) = W0 at *
  have r0 : W0.cell? ⟨w.heap.size, 0, none⟩ = some (.int .i64 0) := (HR.out.cell 0).trans rfl
  have r1 : W0.cell? ⟨w.heap.size, 1, none⟩ = some (.int .i64 0) := (HR.out.cell 1).trans rfl
  have f0 := HR.out.frozen 0
  have f1 := HR.out.frozen 1
  have rl := HR.out.lt
  go_wp2_with fail
  (try rw [← hx, ← hy])
  have HR5 := hid ((HR.out.set 0 (.int .i64 x)).set 1 (.int .i64 y))
  refine bodyPost_ret (results_cell1' rfl rfl (load_pairV HR5.out)) rfl ⟨?_, ?_⟩
  · rw [hx, hy]; rfl
  · exact (HB.out.setCell (Nat.le_refl _) _).setCell (Nat.le_refl _) _

/-- While a bag is ranged over. -/
structure BgI (w0 w : World) (R G r B : Nat) (n : Int) (v : Value) (acc : List E) : Prop where
  own : w.ownsRow (r + 1) 82 3 v acc.length (acc.flatMap E.cells)
  br : Blk w R #[.int .i64 0, .slice none 0 0] 24
  bg : Blk w G #[.int .i64 n, v] 24
  hB : Below w0.heap.size w0 w
  h0 : B < w0.heap.size
  h1 : w0.heap.size ≤ R
  h2 : R < G
  h3 : G < r
section
variable {w0 w w' : World} {R G r B : Nat} {n : Int} {v v' : Value} {acc acc' : List E}
theorem BgI.iter (h : BgI w0 w R G r B n v acc) (hg : w.grownBy w' (some r)) : BgI w0 w' R G r B n v acc := by
  obtain ⟨h1, h2, h3, h4, h5, h6, h7, h8⟩ := h
  exact ⟨kept_row h1 hg (fun k hk e => by have := (h1.lt k hk).1; simp at e; omega), h2.grown hg (fun e => by simp at e; omega), h3.grown hg (fun e => by simp at e; omega), h4.grown hg h4.size (fun q hq => by simp at hq; omega), h5, h6, h7, h8⟩
theorem BgI.below (h : BgI w0 w R G r B n v acc) (hB : Below w.heap.size w w') : BgI w0 w' R G r B n v acc := h.iter (grown_of hB _)
theorem BgI.push (h : BgI w0 w R G r B n v acc) (ho : w'.ownsRow (r + 1) 82 3 v' acc'.length (acc'.flatMap E.cells)) (hg : w.grownBy w' v.ownBlock) : BgI w0 (w'.setCell ⟨G, 1, none⟩ v') R G r B n v' acc' := by
  obtain ⟨h1, h2, h3, h4, h5, h6, h7, h8⟩ := h
  have hlt : ∀ k, v.ownBlock = some k → r + 1 ≤ k := fun k hk => (h1.lt k hk).1
  have hb := h3.grown hg (fun e => by have := hlt _ e; omega)
  have hb2 := hb.set 1 v'
  have hr := (h2.grown hg (fun e => by have := hlt _ e; omega)).other (show R ≠ G by omega) 1 v'
  refine ⟨kept_row ho (grown_set _ _ _ _) (fun k hk e => by have := (ho.lt k hk).1; simp at e; omega), hr, by simpa using hb2, ?_, h5, h6, h7, h8⟩
  exact (h4.grown hg h4.size (fun q hq => by have := hlt q hq; omega)).setCell (show w0.heap.size ≤ G by omega) _
end
theorem pairV_inv {key : Value} {kl : Lit} (h : keyOf Tryz.prog 156 key = some kl) {M : Int → Int → Int} {D : DataW Unit} (hD : BagD D M) {left : Lit → Bool} (hl : left kl = true) (hlD : ∀ kl, left kl = true → Maps.has D kl = true) :
    ∃ a b, key = pairV a b ∧ kl = keyL a b ∧ InR a b ∧ M a b ≠ 0 := by
  obtain ⟨a, b, hr, rfl, hM⟩ := (hD.has kl).1 (hlD kl hl)
  exact ⟨a, b, law_pair.inj h (key_inR hr), rfl, hr, hM⟩
theorem keyOf_agg {key : Value} {kl : Lit} (h : keyOf Tryz.prog 156 key = some kl) : ∃ x : Value × Value, key = .agg #[x.1, x.2] := by
  obtain ⟨f0, f1, hu, _⟩ := struct_pair
  obtain ⟨xs, L1, rfl, h1, e1⟩ := keyOf_top (by rw [hu]) h
  have hl : xs.size = 2 := by
    unfold Program.keyLits at h1
    rw [hu] at h1
    dsimp only at h1
    split at h1
    · rename_i hc
      have := hc.1
      rw [cells_pairT] at this
      simpa using this
    · cases h1
  obtain ⟨c0, c1, rfl⟩ := Go.Joins.array2 hl
  exact ⟨(c0, c1), rfl⟩
theorem size_le {P : Program} {w : World} {k : TypeId} {R : Value → Option (DataW Unit × List MemPlace)} {b n : Nat} {D : DataW Unit} (h : w.ownsMap P k R b n D) : Maps.size D ≤ n := by
  obtain ⟨es, clock, hb, F, hs, rfl⟩ := h
  show ((es.toList.map _).foldr DataW.insert []).length ≤ n
  rw [length_sorted]
  simpa using hs

/-- The step of a range over a bag. -/
theorem wpList_next_bag (w : World) {ops : Array Oper} {rest : List Oper} {o : Oper} {a : Act} {Q : Exit → Act → World → Prop} (hg : o.guard = none) (it : Operand) (hop : o.op = Op.next it false) (B r N : Nat) (D : DataW Unit) (M : Int → Int → Int) (left : Lit → Bool) (cnt : Nat)
    (hit : a.eval it = .pointer (some ⟨r, 0, none⟩)) (h : w.ranges Tryz.prog 156 (plainElem Tryz.prog 3) B r N D left cnt) (hD : BagD D M) (hL : ∀ kl, left kl = true → Maps.has D kl = true)
    (hDone : cnt = 0 → (∀ kl, left kl = false) → wpList Tryz.prog ops Q rest (a.put o.dst (.tuple #[.bool false])) w)
    (hMore : ∀ (x y : Int) (w' : World) (cnt' : Nat), InR x y → left (keyL x y) = true → M x y ≠ 0 → w'.ranges Tryz.prog 156 (plainElem Tryz.prog 3) B r N D (fun z => left z && !z.sameKey (keyL x y)) cnt' → cnt' < cnt → w.grownBy w' (some r) → w'.heap.size = w.heap.size →
      (Instr.entry (.pointer (some ⟨r, 0, none⟩))).run Tryz.prog w' = .ok (.tuple #[.agg #[.int .i64 x, .int .i64 y], .int .i64 (M x y)]) w' → wpList Tryz.prog ops Q rest (a.put o.dst (.tuple #[.bool true, .agg #[.int .i64 x, .int .i64 y], .int .i64 (M x y)])) w') :
    wpList Tryz.prog ops Q (o :: rest) a w := by
  refine wpList_next_ranges (α := Value × Value) (β := Int) w hg it hop 156 K_pair (plainElem Tryz.prog 3) (fun x => .agg #[x.1, x.2]) (Value.int .i64) (fun key kl h => keyOf_agg h) (fun v y hv => by obtain ⟨c, rfl, _⟩ := plainElem_int_inv und_intM hv; exact ⟨c, rfl⟩) B r N D left cnt hit h hDone ?_
  rintro ⟨x0, x1⟩ c kl y w2 cnt2 hkey hlk hRv hat hrg2 hlt2 hg2 hs2 hen
  obtain ⟨a, b, hab, rfl, hr, hMn⟩ := pairV_inv hkey hD hlk hL
  unfold pairV at hab
  have hx : x0 = .int .i64 a ∧ x1 = .int .i64 b := by simpa using hab
  obtain ⟨rfl, rfl⟩ := hx
  have hcM : c = M a b := by
    obtain ⟨c', ec, hy, _⟩ := plainElem_int_inv und_intM hRv
    have ec2 : c = c' := by simpa using ec
    subst ec2
    have h1 := hat (.lit (.int .i64 0))
    rw [hy, hD.at' a b hr] at h1
    simpa using h1.symm
  subst hcM
  exact hMore a b w2 cnt2 hr hlk hMn hrg2 hlt2 hg2 hs2 hen

set_option maxRecDepth 100000 in
set_option maxHeartbeats 8000000 in
theorem g_bag (n : Int) (hn : 1 ≤ n ∧ n ≤ 12) (B N : Nat) (D : DataW Unit) (M : Int → Int → Int) (w : World) (hm : w.ownsMap Tryz.prog 156 (plainElem Tryz.prog 3) B N D) (hD : BagD D M) (hN : N ≤ 5000) (hM : ∀ x y, M x y ≠ 0 → 0 ≤ x ∧ x < n ∧ 0 ≤ y ∧ y < n) :
    Calls Tryz.prog 95 #[.map (some B), .int .i64 n] w fun e w' => ∃ ev, e = .returned (.agg #[.int .i64 n, ev]) ∧ w'.ownsRow w.heap.size 82 3 ev (esOfM M n.toNat).length ((esOfM M n.toNat).flatMap E.cells) ∧ Below w.heap.size w w' := by
  obtain ⟨i0, hi0, hz0, hz1, hz2⟩ := info_parts info_edge
  have HD := hid hD
  have HM := hid hM
  have HN := hid (And.intro hn hN)
  have hB0 : Below w.heap.size w ((w.alloc (.cells #[.int .i64 0, .slice none 0 0] 24)).alloc (.cells #[.int .i64 n, .slice none 0 0] 24)) := ((Below.refl w.heap.size w).alloc (Nat.le_refl _) _).alloc (by simp) _
  have HR0 := hid ((Blk.new w #[.int .i64 0, .slice none 0 0] 24).alloc (.cells #[.int .i64 n, .slice none 0 0] 24))
  have HG0 := Blk.new (w.alloc (.cells #[.int .i64 0, .slice none 0 0] 24)) #[.int .i64 n, .slice none 0 0] 24
  rw [World.size_alloc] at HG0
  have HG0 := hid HG0
  have HB0 := hid hB0
  have HBL := hid hm.lt
  have HOM := hid ((hm.alloc (.cells #[.int .i64 0, .slice none 0 0] 24)).alloc (.cells #[.int .i64 n, .slice none 0 0] 24))
  have hs0 : ((w.alloc (.cells #[.int .i64 0, .slice none 0 0] 24)).alloc (.cells #[.int .i64 n, .slice none 0 0] 24)).heap.size = w.heap.size + 2 := by simp
  clear hm hD hM hn hN hB0
  go_enter Tryz.func95, Tryz.ntmps95
  go_upto_region 2 with fail
  generalize (w.alloc (.cells #[.int .i64 0, .slice none 0 0] 24)).alloc (.cells #[.int .i64 n, .slice none 0 0] 24) = W0 at *
  go_wp2_with (at_range; refine wpList_range_own W0 rfl _ 160 rfl 156 3 K_pair und_bag (plainElem Tryz.prog 3) B N D rfl HOM.out ?_; intro w1 hrg hg1 hs1; rw [hs0] at hrg ⊢)
  go_frame
  have HRG := hid hrg
  have h0 : Hid (BgI w w1 w.heap.size (w.heap.size + 1) (w.heap.size + 2) B n (.slice none 0 0) []) := by
    have hBL := HBL.out
    exact ⟨World.ownsRow_nil _ _ _ _, HR0.out.grown hg1 (by simp), HG0.out.grown hg1 (by simp), HB0.out.grown hg1 HB0.out.size (fun q hq => by cases hq), hBL, Nat.le_refl _, by omega, by omega⟩
  have hsd : Hid (Maps.size D ≤ 5000) := Nat.le_trans (size_le HOM.out) HN.out.2
  clear hrg hg1 hs1
  go_loopw [12] (fun _ wr => ∃ left cnt v acc, Hid (wr.ranges Tryz.prog 156 (plainElem Tryz.prog 3) B (w.heap.size + 2) N D left cnt) ∧ Hid (BgI w wr w.heap.size (w.heap.size + 1) (w.heap.size + 2) B n v acc) ∧ Hid (Vis M left acc) ∧ Hid (acc.length + cnt ≤ 5000) ∧ Hid (∀ kl, left kl = true → Maps.has D kl = true))
    (fun _ wr => wr.rangeLeft B (w.heap.size + 2))
  case atStart => exact ⟨_, _, _, [], HRG, h0, Vis.start HD.out, by show _ ≤ _; have := hsd.out; simp; omega, fun kl h => h⟩
  case round =>
    clear HRG h0
    obtain ⟨left, cnt, v, acc, HRG, HI, HV, HC, HL⟩ := hrel
    obtain ⟨W1, rfl⟩ : ∃ W : World, W = wr := ⟨_, rfl⟩
    go_wp2_with (at_next; refine wpList_next_bag W1 rfl _ rfl B (w.heap.size + 2) N D M left cnt rfl HRG.out HD.out HL.out ?_ ?_)
    · intro hc0 hl0
      have HL0 := hid hl0
      clear hl0
      obtain ⟨ea, ecap, rfl, _⟩ := owns_at HI.out.own
      have g1 : W1.cell? ⟨w.heap.size + 1, 1, none⟩ = some (.slice ea acc.length ecap) := (HI.out.bg.cell 1).trans rfl
      have gl := HI.out.bg.lt
      have hac : acc.length ≤ 5000 := by have := HC.out; omega
      go_wp2_with fail
      by_cases hem : acc.length = 0
      · obtain rfl : acc = [] := List.eq_nil_of_length_eq_zero hem
        have hes : Hid (esOfM M n.toNat = []) := (HV.out.end HL0.out HM.out HN.out.1.2 (List.Perm.refl _) List.Pairwise.nil).symm
        have hns := hid (c_SortNone W1 ecap ea)
        refine hns.out.mono ?_
        rintro e w4 ⟨rfl, hw4⟩
        subst hw4
        have g0 : w4.cell? ⟨w.heap.size + 1, 0, none⟩ = some (.int .i64 n) := (HI.out.bg.cell 0).trans rfl
        have r0 : w4.cell? ⟨w.heap.size, 0, none⟩ = some (.int .i64 0) := (HI.out.br.cell 0).trans rfl
        have r1 : w4.cell? ⟨w.heap.size, 1, none⟩ = some (.slice none 0 0) := (HI.out.br.cell 1).trans rfl
        have f0 := HI.out.br.frozen 0
        have f1 := HI.out.br.frozen 1
        have rl := HI.out.br.lt
        have HOW := hid HI.out.own
        dsimp only [List.length_nil] at g1 ⊢
        go_wp2_with fail
        have HR5 := hid ((HI.out.br.set 0 (.int .i64 n)).set 1 (.slice ea 0 ecap))
        refine bodyPost_ret (results_cell1' rfl rfl (load_gr rfl HR5.out)) rfl ⟨_, rfl, ?_, ?_⟩
        · rw [hes.out]
          exact owns_base (kept_row (kept_row HOW.out (grown_set _ _ _ _) (hnk _ HOW.out (by omega))) (grown_set _ _ _ _) (hnk _ HOW.out (by omega))) (by omega)
        · exact (HI.out.hB.setCell (Nat.le_refl _) _).setCell (Nat.le_refl _) _
      · obtain ⟨gq, capq, evq, _, _⟩ := owns_some HI.out.own (by omega)
        injection evq with ev1 _ ev3
        subst ev1 ev3
        have hsr := hid (c_SortE HI.out.own (by omega))
        refine hsr.out.mono ?_
        rintro e w4 ⟨rfl, es', hp, hso, ho4, hg4⟩
        have hes : Hid (es' = esOfM M n.toNat) := HV.out.end HL0.out HM.out HN.out.1.2 hp hso
        have hlen := hid (show acc.length = es'.length from hp.length_eq.symm)
        have hgq := (HI.out.own.lt gq rfl).1
        have HBR := hid (HI.out.br.grown hg4 (fun e => by simp at e; omega))
        have HBG := hid (HI.out.bg.grown hg4 (fun e => by simp at e; omega))
        have HB4 : Hid (Below w.heap.size w w4) := HI.out.hB.grown hg4 HI.out.hB.size (fun q hq => by simp at hq; omega)
        have HOW := hid ho4
        clear hp hso ho4 hg4 hsr g1 gl
        have g0 : w4.cell? ⟨w.heap.size + 1, 0, none⟩ = some (.int .i64 n) := (HBG.out.cell 0).trans rfl
        have g1 : w4.cell? ⟨w.heap.size + 1, 1, none⟩ = some (.slice (some ⟨gq, 0, none⟩) acc.length ecap) := (HBG.out.cell 1).trans rfl
        have gl := HBG.out.lt
        have r0 : w4.cell? ⟨w.heap.size, 0, none⟩ = some (.int .i64 0) := (HBR.out.cell 0).trans rfl
        have r1 : w4.cell? ⟨w.heap.size, 1, none⟩ = some (.slice none 0 0) := (HBR.out.cell 1).trans rfl
        have f0 := HBR.out.frozen 0
        have f1 := HBR.out.frozen 1
        have rl := HBR.out.lt
        dsimp only
        go_wp2_with fail
        have HR5 := hid ((HBR.out.set 0 (.int .i64 n)).set 1 (.slice (some ⟨gq, 0, none⟩) acc.length ecap))
        refine bodyPost_ret (results_cell1' rfl rfl (load_gr rfl HR5.out)) rfl ⟨_, rfl, ?_, ?_⟩
        · rw [← hes.out, ← hlen.out]
          exact owns_base (kept_row (kept_row HOW.out (grown_set _ _ _ _) (hnk _ HOW.out (by omega))) (grown_set _ _ _ _) (hnk _ HOW.out (by omega))) (by omega)
        · exact (HB4.out.setCell (Nat.le_refl _) _).setCell (Nat.le_refl _) _
    · intro a b w2 cnt2 hr hlk hMn hrg2 hlt2 hg2 hs2 hen
      have HRG2 := hid hrg2
      have HI2 := hid (HI.out.iter hg2)
      have HV2 := hid (HV.out.step hr hlk hMn)
      have HLT := hid hlt2
      have HL2 : Hid (∀ kl, (left kl && !kl.sameKey (keyL a b)) = true → Maps.has D kl = true) := fun kl h => HL.out kl (by simp at h; exact h.1)
      clear hlk hrg2 hg2 hs2 hlt2 HI HV HL
      generalize hcv : M a b = c at *
      obtain ⟨cp, av, rfl⟩ : ∃ cp a, v = .slice a acc.length cp := by obtain ⟨a, cap, e, _⟩ := owns_at HI2.out.own; exact ⟨cap, a, e⟩
      go_upto_region 5 with fail
      have HX := hid (Blk.new w2 #[.int .i64 a, .int .i64 b] 156)
      have HI3 := hid (HI2.out.below ((Below.refl _ _).alloc (Nat.le_refl _) (.cells #[.int .i64 a, .int .i64 b] 156)))
      have HRG3 := hid (HRG2.out.alloc (.cells #[.int .i64 a, .int .i64 b] 156))
      clear hen HI2 HRG2
      generalize w2.alloc (.cells #[.int .i64 a, .int .i64 b] 156) = W3 at *
      generalize w2.heap.size = X at *
      have x0 : W3.cell? ⟨X, 0, none⟩ = some (.int .i64 a) := (HX.out.cell 0).trans rfl
      have x1 : W3.cell? ⟨X, 1, none⟩ = some (.int .i64 b) := (HX.out.cell 1).trans rfl
      have xl := HX.out.lt
      have q1 : W3.cell? ⟨w.heap.size + 1, 1, none⟩ = some (.slice av acc.length cp) := (HI3.out.bg.cell 1).trans rfl
      have hgl1 := HI3.out.bg.lt
      have hac : acc.length ≤ 5000 := by have := HC.out; omega
      have hrl := HRG3.out.lt
      go_wp2_with (at_builtin; go_must (refine wpList_append_own _ rfl _ _ 22 rfl (w.heap.size + 2 + 1) 82 i0 (.agg #[.int .i64 0, .int .i64 0, .int .i64 0]) 3 24 und_edges hi0 hz0 hz1 hz2 rfl (by decide) (.slice av acc.length cp) acc.length (acc.flatMap E.cells) rfl (HI3.out.own.alloc _) ⟨W3.heap.size, 0, none⟩ 1 1 [.int .i64 a, .int .i64 b, .int .i64 c] rfl rfl (fun j u h => trip_news _ a b c _ j u h) (by simp [Value.oneCell']) (by unfold maxLen; omega) (by omega) (by simp; omega) ?_; intro v' w9 ho9 hg9 _; obtain ⟨va, vc, rfl, _⟩ := owns_at ho9; have hgT : W3.grownBy w9 (Value.slice av acc.length cp).ownBlock := (Below.toGrown ((Below.refl _ _).alloc (Nat.le_refl _) (.cells #[.int .i64 a, .int .i64 b, .int .i64 c] 82)) _).trans hg9; have hlo := fun k hk => (HI3.out.own.lt k hk).1; have HBG := HI3.out.bg.grown hgT (fun e => by have := hlo _ e; omega); have HRG9 := hid (HRG3.out.kept hgT (fun e => by have := hlo _ e.symm; have := HBL.out; omega) (fun e => by have := hlo _ e.symm; omega)); have HJ9 := hid (HI3.out.push (acc' := acc ++ [⟨a, b, c⟩]) (w' := w9) (by rw [List.flatMap_append, List.length_append]; exact ho9) hgT); have q9 : w9.cell? ⟨w.heap.size + 1, 1, none⟩ = some (.slice av acc.length cp) := (HBG.cell 1).trans rfl; have f9 := HBG.frozen 1; have l9 := HBG.lt; clear hgT HBG ho9 hg9 q1 hgl1 x0 x1 xl hlo))
      have HRG10 := hid (HRG9.out.kept (grown_set w9 (w.heap.size + 1) 1 (.slice va (acc.length + 1) vc)) (fun e => by have := HBL.out; simp at e; omega) (fun e => by simp at e))
      go_roundw
      case rel => exact ⟨_, _, _, _, HRG10, HJ9, HV2, by show _ ≤ _; rw [List.length_append]; have := HC.out; have := HLT.out; simp; omega, HL2⟩
      case measure =>
        have h1 := HRG10.out.left_eq
        have h2 := HRG.out.left_eq
        have := HLT.out
        omega

end Go.Proofs.YtemmepgfngkgmaaGreatDoor
