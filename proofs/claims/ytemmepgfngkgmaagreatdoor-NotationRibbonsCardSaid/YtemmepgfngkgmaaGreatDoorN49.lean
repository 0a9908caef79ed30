/-
  The reference: the edges of a ribbon graph.
-/
import Derived.Test.YtemmepgfngkgmaaGreatDoorN42
import Derived.Test.YtemmepgfngkgmaaGreatDoorNq
namespace Go.Proofs.YtemmepgfngkgmaaGreatDoor
open Go.RowKit
set_option linter.unusedVariables false
set_option linter.unusedSimpArgs false

/-- While the edges of a ribbon graph are read. -/
structure QgI (w0 w : World) (b tb R G : Nat) (L : List Tok) (n : Int) (v : Value) (es : List E) (s : Rs) : Prop where
  own : w.ownsRow (G + 1) 82 3 v es.length (es.flatMap E.cells)
  br : Blk w R #[.int .i64 0, .slice none 0 0] 24
  bg : Blk w G #[.int .i64 n, v] 24
  tk : Rk w b tb L s
  g : w0.grownBy w (some b)
  hb : b < w0.heap.size
  htb : tb < w0.heap.size
  hR : w0.heap.size ≤ R
  hRG : R < G
section
variable {w0 w w' : World} {b tb R G : Nat} {L : List Tok} {n : Int} {v v' : Value} {es es' : List E} {s s' : Rs}
theorem QgI.step (h : QgI w0 w b tb R G L n v es s) (ht : Rk w' b tb L s') (hg : w.grownBy w' (some b)) : QgI w0 w' b tb R G L n v es s' := by
  have hb := h.hb
  have hR := h.hR
  have hRG := h.hRG
  exact ⟨kept_row h.own hg (fun k hk e => by have := (h.own.lt k hk).1; simp at e; omega), h.br.grown hg (fun e => by simp at e; omega), h.bg.grown hg (fun e => by simp at e; omega), ht, grown_trans h.g hg, hb, h.htb, hR, hRG⟩
theorem QgI.below (h : QgI w0 w b tb R G L n v es s) (hB : Below w.heap.size w w') : QgI w0 w' b tb R G L n v es s := h.step (h.tk.below hB) (grown_of hB _)
theorem QgI.push (h : QgI w0 w b tb R G L n v es s) (ho : w'.ownsRow (G + 1) 82 3 v' es'.length (es'.flatMap E.cells)) (hg : w.grownBy w' v.ownBlock) : QgI w0 (w'.setCell ⟨G, 1, none⟩ v') b tb R G L n v' es' s := by
  have hb := h.hb
  have htb := h.htb
  have hR := h.hR
  have hRG := h.hRG
  have hlt : ∀ k, v.ownBlock = some k → G + 1 ≤ k := fun k hk => (h.own.lt k hk).1
  have hg1 := h.bg.grown hg (fun e => by have := hlt _ e; omega)
  have hg2 := hg1.set 1 v'
  have hr := (h.br.grown hg (fun e => by have := hlt _ e; omega)).other (show R ≠ G by omega) 1 v'
  have ht := (h.tk.grownR hg (fun e => by have := hlt _ e; omega) (fun e => by have := hlt _ e; omega)).setO (show b ≠ G by omega) (show tb ≠ G by omega) 1 v'
  exact ⟨kept_row ho (grown_set _ _ _ _) (fun k hk e => by have := (ho.lt k hk).1; simp at e; omega), hr, by simpa using hg2, ht, grown_setN _ _ _ _ (by omega) _ (kept_g h.g hg (fun k hk => by have := hlt k hk; omega)), hb, htb, hR, hRG⟩
end
/-- The edge at the row's end. -/
theorem QgI.last {w0 w : World} {b tb R G : Nat} {L : List Tok} {n : Int} {v : Value} {es : List E} {s : Rs} (h : QgI w0 w b tb R G L n v es s) (j : Nat) (hj : es.length = j + 1) :
    ∃ g cap, v = .slice (some ⟨g, 0, none⟩) es.length cap ∧ g < w.heap.size ∧ w.cell? ⟨g, j * 3, none⟩ = some (.int .i64 (es[es.length - 1]?.getD default).a) ∧ w.cell? ⟨g, j * 3 + 1, none⟩ = some (.int .i64 (es[es.length - 1]?.getD default).b) := by
  obtain ⟨g, cap, rfl, _, hl⟩ := owns_some h.own (by omega)
  have he : es.length - 1 = j := by omega
  rw [he]
  obtain ⟨a, cap', e1, _, _, hc⟩ := owns_at h.own
  injection e1 with e1 _ _
  subst e1
  obtain ⟨b', off, e2, _, hc⟩ := hc.edge (by omega)
  simp at e2
  obtain ⟨rfl, rfl⟩ := e2
  obtain ⟨c0, c1, _⟩ := hc j (by omega)
  rw [Nat.zero_add] at c0 c1
  exact ⟨g, cap, rfl, hl, c0, c1⟩
theorem badL_less {es : List E} {x : Ln} (h : ¬ x.b < x.a) (h0 : 0 < es.length) : badL es x ↔ lessB (es[es.length - 1]?.getD default).a (es[es.length - 1]?.getD default).b x.a x.b = false := by
  unfold badL lessB
  simp
  omega
def RetQg (w : World) (b tb : Nat) (L : List Tok) (n : Int) (z : List E × Rs) (e : Ending) (w' : World) : Prop :=
  ∃ ev, e = .returned (.agg #[.int .i64 n, ev]) ∧ w'.ownsRow w.heap.size 82 3 ev z.1.length (z.1.flatMap E.cells) ∧ Rk w' b tb L (z.2.need [59]) ∧ w.grownBy w' (some b)

set_option maxRecDepth 100000 in
set_option maxHeartbeats 8000000 in
theorem q_graph (n : Int) (hn : -1000 ≤ n ∧ n ≤ 1000) (L : List Tok) (s : Rs) (b tb : Nat) (w : World) (h : Rk w b tb L s) :
    Calls Tryz.prog 66 #[.pointer (some ⟨b, 0, none⟩), .int .i64 n] w (RetQg w b tb L n (exactG n s.ts.length [] s)) := by
  obtain ⟨i0, hi0, hz0, hz1, hz2⟩ := info_parts info_edge
  obtain ⟨Z, hZ⟩ : ∃ Z, Z = exactG n s.ts.length [] s := ⟨_, rfl⟩
  rw [← hZ]
  have HZ := hid hZ.symm
  have HLN := hid (fun (s : Rs) (w : World) (h : Rk w b tb L s) => q_line w b tb L s h n 45 hn)
  have hok := hid h.1
  have h0 : Hid (QgI w ((w.alloc (.cells #[.int .i64 0, .slice none 0 0] 24)).alloc (.cells #[.int .i64 n, .slice none 0 0] 24)) b tb w.heap.size (w.heap.size + 1) L n (.slice none 0 0) [] s) := by
    obtain ⟨_, _, _, htb, _⟩ := h.cells
    have hB0 : Below w.heap.size w ((w.alloc (.cells #[.int .i64 0, .slice none 0 0] 24)).alloc (.cells #[.int .i64 n, .slice none 0 0] 24)) := ((Below.refl w.heap.size w).alloc (Nat.le_refl _) _).alloc (by simp) _
    have HG0 := Blk.new (w.alloc (.cells #[.int .i64 0, .slice none 0 0] 24)) #[.int .i64 n, .slice none 0 0] 24
    rw [World.size_alloc] at HG0
    exact ⟨World.ownsRow_nil _ _ _ _, (Blk.new w #[.int .i64 0, .slice none 0 0] 24).alloc _, HG0, h.below hB0, grown_of hB0 _, h.lt, htb, Nat.le_refl _, by omega⟩
  clear hZ h hn
  go_enter Tryz.func66, Tryz.ntmps66
  go_upto_region 2 with fail
  generalize (w.alloc (.cells #[.int .i64 0, .slice none 0 0] 24)).alloc (.cells #[.int .i64 n, .slice none 0 0] 24) = W0 at *
  go_wp2_with fail
  go_loopg [10] (s.ts.length + 1) (fun k v wr => ∃ ev es s', Hid (QgI w wr b tb w.heap.size (w.heap.size + 1) L n ev es s') ∧ es.length + s'.ts.length ≤ 5001 ∧ (s'.e = 0 → s'.ts.length < k ∧ es.length + s'.ts.length ≤ 5000) ∧ Hid (exactG n s'.ts.length es s' = Z))
  case atStart => exact ⟨_, [], s, h0, by have := hok.out.2.1; simp; omega, fun _ => ⟨by omega, by have := hok.out.2.1; simp; omega⟩, HZ⟩
  case round =>
    clear h0 hok HZ
    obtain ⟨ev, es, s', HI, hsz, hM, HZ⟩ := hrel
    obtain ⟨W1, rfl⟩ : ∃ W : World, W = wr := ⟨_, rfl⟩
    have HSZ := hid hsz
    have HM := hid hM
    clear hsz hM
    obtain ⟨_, _, _, _, _, _, _, _, _, _, _, _, d2, _⟩ := HI.out.tk.cells
    have hbl := HI.out.tk.lt
    by_cases he : s'.e = 0
    case neg =>
      have he1 : (s'.e == 0) = false := by simpa using he
      have HZ2 : Hid ((es, s') = Z) := by show _ = _; rw [← HZ.out, exactG_end (.inl he)]
      clear HZ he
      go_wp2_with fail
      refine (q_need W1 b tb L s' HI.out.tk [59]).mono ?_
      rintro e w3 ⟨rfl, ht3, hg3⟩
      have HI3 := hid (HI.out.step ht3 hg3)
      clear ht3 hg3 HI
      obtain ⟨ea, ecap, rfl, _⟩ := owns_at HI3.out.own
      dsimp only
      go_upto_region 9 with fail
      have g0 : w3.cell? ⟨w.heap.size + 1, 0, none⟩ = some (.int .i64 n) := (HI3.out.bg.cell 0).trans rfl
      have g1 : w3.cell? ⟨w.heap.size + 1, 1, none⟩ = some (.slice ea es.length ecap) := (HI3.out.bg.cell 1).trans rfl
      have gl := HI3.out.bg.lt
      have r0 : w3.cell? ⟨w.heap.size, 0, none⟩ = some (.int .i64 0) := (HI3.out.br.cell 0).trans rfl
      have r1 : w3.cell? ⟨w.heap.size, 1, none⟩ = some (.slice none 0 0) := (HI3.out.br.cell 1).trans rfl
      have f0 := HI3.out.br.frozen 0
      have f1 := HI3.out.br.frozen 1
      have rl := HI3.out.br.lt
      go_wp2_with fail
      have HR5 := hid ((HI3.out.br.set 0 (.int .i64 n)).set 1 (.slice ea es.length ecap))
      have HTK := hid ((HI3.out.tk.setO (show b ≠ w.heap.size by have := HI3.out.hb; omega) (show tb ≠ w.heap.size by have := HI3.out.htb; omega) 0 (.int .i64 n)).setO (show b ≠ w.heap.size by have := HI3.out.hb; omega) (show tb ≠ w.heap.size by have := HI3.out.htb; omega) 1 (.slice ea es.length ecap))
      refine bodyPost_ret (results_cell1' rfl rfl (load_gr rfl HR5.out)) rfl ⟨_, rfl, ?_, ?_, ?_⟩
      · rw [← HZ2.out]
        exact owns_base (kept_row (kept_row HI3.out.own (grown_set _ _ _ _) (hnk _ HI3.out.own (by omega))) (grown_set _ _ _ _) (hnk _ HI3.out.own (by omega))) (by omega)
      · rw [← HZ2.out]
        exact HTK.out
      · exact grown_setN _ _ _ _ (Nat.le_refl _) _ (grown_setN _ _ _ _ (Nat.le_refl _) _ HI3.out.g)
    rw [he] at d2
    have HE0 := hid he
    have HM := hid (HM.out he)
    clear he
    go_wp2_with fail
    refine (q_is W1 b tb L s' HI.out.tk [59]).mono ?_
    rintro e w1 ⟨rfl, hB1⟩
    have HI1 := hid (HI.out.below hB1)
    clear hB1 HI d2 hbl
    cases his : s'.is [59] with
    | true =>
      have HZ2 : Hid ((es, s') = Z) := by show _ = _; rw [← HZ.out, exactG_end (.inr his)]
      have HI := HI1
      clear his HZ HI1
      obtain ⟨W1, rfl⟩ : ∃ W : World, W = w1 := ⟨_, rfl⟩
      dsimp only
      go_wp2_with fail
      refine (q_need W1 b tb L s' HI.out.tk [59]).mono ?_
      rintro e w3 ⟨rfl, ht3, hg3⟩
      have HI3 := hid (HI.out.step ht3 hg3)
      clear ht3 hg3 HI
      obtain ⟨ea, ecap, rfl, _⟩ := owns_at HI3.out.own
      dsimp only
      go_upto_region 9 with fail
      have g0 : w3.cell? ⟨w.heap.size + 1, 0, none⟩ = some (.int .i64 n) := (HI3.out.bg.cell 0).trans rfl
      have g1 : w3.cell? ⟨w.heap.size + 1, 1, none⟩ = some (.slice ea es.length ecap) := (HI3.out.bg.cell 1).trans rfl
      have gl := HI3.out.bg.lt
      have r0 : w3.cell? ⟨w.heap.size, 0, none⟩ = some (.int .i64 0) := (HI3.out.br.cell 0).trans rfl
      have r1 : w3.cell? ⟨w.heap.size, 1, none⟩ = some (.slice none 0 0) := (HI3.out.br.cell 1).trans rfl
      have f0 := HI3.out.br.frozen 0
      have f1 := HI3.out.br.frozen 1
      have rl := HI3.out.br.lt
      go_wp2_with fail
      have HR5 := hid ((HI3.out.br.set 0 (.int .i64 n)).set 1 (.slice ea es.length ecap))
      have HTK := hid ((HI3.out.tk.setO (show b ≠ w.heap.size by have := HI3.out.hb; omega) (show tb ≠ w.heap.size by have := HI3.out.htb; omega) 0 (.int .i64 n)).setO (show b ≠ w.heap.size by have := HI3.out.hb; omega) (show tb ≠ w.heap.size by have := HI3.out.htb; omega) 1 (.slice ea es.length ecap))
      refine bodyPost_ret (results_cell1' rfl rfl (load_gr rfl HR5.out)) rfl ⟨_, rfl, ?_, ?_, ?_⟩
      · rw [← HZ2.out]
        exact owns_base (kept_row (kept_row HI3.out.own (grown_set _ _ _ _) (hnk _ HI3.out.own (by omega))) (grown_set _ _ _ _) (hnk _ HI3.out.own (by omega))) (by omega)
      · rw [← HZ2.out]
        exact HTK.out
      · exact grown_setN _ _ _ _ (Nat.le_refl _) _ (grown_setN _ _ _ _ (Nat.le_refl _) _ HI3.out.g)
    | false =>
      have hstop : ¬ (s'.e ≠ 0 ∨ s'.is [59] = true) := by rw [HE0.out, his]; simp
      have HLT := hid (line_ts HI1.out.tk.1 45 n)
      have hlz : s'.ts.length = (s'.ts.length - 1) + 1 := by have := HI1.out.tk.1.1; omega
      have hz := HZ.out
      rw [hlz, exactG_step hstop _ (s'.line 45 n).1 (s'.line 45 n).2 rfl] at hz
      have HZ := hid hz
      clear hz hstop hlz his
      dsimp only
      go_wp2_with fail
      refine (HLN.out s' w1 HI1.out.tk).mono ?_
      rintro e w3 ⟨rfl, ht3, hg3⟩
      have HI3 := hid (HI1.out.step ht3 hg3)
      clear ht3 hg3 HI1
      generalize hp : s'.line 45 n = p at *
      obtain ⟨x, s2⟩ := p
      clear hp
      have HI3 : Hid (QgI w w3 b tb w.heap.size (w.heap.size + 1) L n ev es s2) := HI3
      have HZ : Hid ((if s2.e ≠ 0 then (es ++ [lnE x], s2) else if badL es x then (es ++ [lnE x], s2.fail 9 x.pl) else exactG n (s'.ts.length - 1) (es ++ [lnE x]) s2) = Z) := HZ
      have HLT : Hid (TsOk s2.ts ∧ s2.ts.length ≤ s'.ts.length ∧ (s2.e = 0 → s2.ts.length < s'.ts.length)) := ⟨HLT.out.1, HLT.out.2.1, fun h => (HLT.out.2.2 h).1⟩
      unfold LnV
      dsimp only
      go_upto_region 4 with fail
      have HX := hid (Blk.new w3 #[.int .i64 x.a, .int .i64 x.b, .int .i64 x.m, .int .i64 x.pl] 173)
      have HI4 := hid (HI3.out.below ((Below.refl _ _).alloc (Nat.le_refl _) (.cells #[.int .i64 x.a, .int .i64 x.b, .int .i64 x.m, .int .i64 x.pl] 173)))
      have HBX : Hid (b < w3.heap.size) := HI3.out.tk.lt
      clear HI3
      generalize hXX : w3.heap.size = X at *
      generalize w3.alloc (.cells #[.int .i64 x.a, .int .i64 x.b, .int .i64 x.m, .int .i64 x.pl] 173) = W4 at *
      clear hXX
      obtain ⟨av, cp, hav⟩ : ∃ a cap, ev = .slice a es.length cap := by obtain ⟨a, cap, e, _⟩ := owns_at HI4.out.own; exact ⟨a, cap, e⟩
      subst hav
      have q1 : W4.cell? ⟨w.heap.size + 1, 1, none⟩ = some (.slice av es.length cp) := (HI4.out.bg.cell 1).trans rfl
      have hgl1 := HI4.out.bg.lt
      go_upto_region 5 with fail
      have hXl := HX.out.lt
      have hbl := HI4.out.tk.lt
      have hcl : Hid (∀ W', Below W4.heap.size W4 W' → W'.cell? ⟨X, 0, none⟩ = some (.int .i64 x.a) ∧ W'.cell? ⟨X, 1, none⟩ = some (.int .i64 x.b) ∧ W'.cell? ⟨b, 2, none⟩ = some (.int .i64 s2.e) ∧ W'.cell? ⟨w.heap.size + 1, 1, none⟩ = some (.slice av es.length cp)) := fun W' hB => by
        obtain ⟨_, _, _, _, _, _, _, _, _, _, _, _, d2, _⟩ := (HI4.out.below hB).tk.cells
        exact ⟨((HX.out.below hB).cell 0).trans rfl, ((HX.out.below hB).cell 1).trans rfl, d2, ((HI4.out.below hB).bg.cell 1).trans rfl⟩
      clear q1
      by_cases he2 : s2.e = 0
      case neg =>
        have HZ8 : Hid (exactG n s2.ts.length (es ++ [lnE x]) s2 = Z) := by
          have h := HZ.out
          rw [if_pos he2] at h
          show _ = _
          rw [exactG_end (.inl he2)]
          exact h
        have he1 : (s2.e == 0) = false := by simpa using he2
        clear HZ he2 hgl1
        let S : World → Prop := fun W' => Hid (Below W4.heap.size W4 W')
        (refine wp_region_text 37 [0,1,2,3,4,5,6,7,8,9,10,11,12,13,14,15,16,17,18,19,20,21,22,23,24,25,26,27,28,29,30,31,32,33,34,35,36] S (by kernel_rfl) (by kernel_rfl) (by intro _ _ d _ _ h; cases d <;> exact h) ?hS ?_; rotate_left; simp only [List.map_cons, List.map_nil, List.getD_cons_zero, List.getD_cons_succ, List.drop_succ_cons, List.drop_zero])
        case hS => exact Below.drew (Below.refl _ _)
        (repeat ((refine' wpSeq_take rfl _ (by rfl) ?_ ?_; rotate_left; focus (intro w' hS; (try dsimp only at hS); obtain ⟨s0, s1, s2, s3⟩ := hcl.out _ hS.out; go_simp; (first | done | with_reducible rfl)); (try simp only [Act.put, List.setIfInBounds_toArray, List.set_cons_zero, List.set_cons_succ])); (try simp only [Act.put, List.setIfInBounds_toArray, List.set_cons_zero, List.set_cons_succ])))
        (repeat (refine wpSeq_skip (by rfl) ?_; (try simp only [Act.put, List.setIfInBounds_toArray, List.set_cons_zero, List.set_cons_succ])))
        refine wpSeq_nil ?_
        clear S
        have HI5 := hid (HI4.out.below (Below.drew (Below.refl _ _)))
        have HX5 := hid (Blk.drew HX.out)
        clear HI4 HX hbl hXl hcl
        generalize W4.drew = W5 at *
        have HM2 := HM.out
        have hlxs : es.length ≤ 5001 := by have := HSZ.out; omega
        have x0 : W5.cell? ⟨X, 0, none⟩ = some (.int .i64 x.a) := (HX5.out.cell 0).trans rfl
        have x1 : W5.cell? ⟨X, 1, none⟩ = some (.int .i64 x.b) := (HX5.out.cell 1).trans rfl
        have x2 : W5.cell? ⟨X, 2, none⟩ = some (.int .i64 x.m) := (HX5.out.cell 2).trans rfl
        have hXl7 := HX5.out.lt
        have q1 : W5.cell? ⟨w.heap.size + 1, 1, none⟩ = some (.slice av es.length cp) := (HI5.out.bg.cell 1).trans rfl
        have hgl1 := HI5.out.bg.lt
        go_upto_region 7 with fail
        go_wp2_with (at_builtin; go_must (refine wpList_append_own _ rfl _ _ 22 rfl (w.heap.size + 1 + 1) 82 i0 (.agg #[.int .i64 0, .int .i64 0, .int .i64 0]) 3 24 und_edges hi0 hz0 hz1 hz2 rfl (by decide) (.slice av es.length cp) es.length (es.flatMap E.cells) rfl (HI5.out.own.alloc _) ⟨W5.heap.size, 0, none⟩ 1 1 [.int .i64 x.a, .int .i64 x.b, .int .i64 x.m] rfl rfl (fun j u h => trip_news _ x.a x.b x.m _ j u h) (by simp [Value.oneCell']) (by unfold maxLen; omega) (by omega) (by simp; omega) ?_; intro v' w9 ho9 hg9 _; obtain ⟨va, vc, rfl, _⟩ := owns_at ho9; have hgT : (W5).grownBy w9 (Value.slice av es.length cp).ownBlock := (Below.toGrown ((Below.refl _ _).alloc (Nat.le_refl _) (.cells #[.int .i64 x.a, .int .i64 x.b, .int .i64 x.m] 82)) _).trans hg9; have HBG := HI5.out.bg.grown hgT (fun e => by have := (HI5.out.own.lt _ e).1; omega); have HJ9 := hid (HI5.out.push (es' := es ++ [lnE x]) (w' := w9) (by rw [List.flatMap_append, List.length_append]; exact ho9) hgT); have q9 : w9.cell? ⟨w.heap.size + 1, 1, none⟩ = some (.slice av es.length cp) := (HBG.cell 1).trans rfl; have f9 := HBG.frozen 1; have l9 := HBG.lt; clear hgT HBG ho9 hg9 q1 hgl1 x0 x1 x2 hXl7))
        go_roundg (gk - 1)
        case measure => omega
        case rel =>
          refine ⟨.slice va (es.length + 1) vc, es ++ [lnE x], s2, HJ9, by rw [List.length_append]; have := HLT.out.2.1; simp only [List.length_cons, List.length_nil]; omega, fun h => ?_, ?_⟩
          · have := HLT.out.2.2 h
            rw [List.length_append]
            simp only [List.length_cons, List.length_nil]
            omega
          · exact HZ8
      have HE2 := hid he2
      have HZ2 : Hid ((if badL es x then (es ++ [lnE x], s2.fail 9 x.pl) else exactG n (s'.ts.length - 1) (es ++ [lnE x]) s2) = Z) := by
        have h := HZ.out
        rw [if_neg (by rw [he2]; simp)] at h
        exact h
      rw [he2] at hcl
      clear HZ he2
      by_cases hb1 : x.b < x.a
      case pos =>
        have HBAD : Hid (badL es x) := .inl hb1
        clear hgl1
        let S : World → Prop := fun W' => Hid (Below W4.heap.size W4 W')
        (refine wp_region_text 37 [0,1,2,3,4,5,6,7,8,9,10,11,12,13,14,15,16,17,18,19,20,21,22,23,24,25,26,27,28,29,30,31,32,33,34,35,36] S (by kernel_rfl) (by kernel_rfl) (by intro _ _ d _ _ h; cases d <;> exact h) ?hS ?_; rotate_left; simp only [List.map_cons, List.map_nil, List.getD_cons_zero, List.getD_cons_succ, List.drop_succ_cons, List.drop_zero])
        case hS => exact Below.drew (Below.refl _ _)
        (repeat ((refine' wpSeq_take rfl _ (by rfl) ?_ ?_; rotate_left; focus (intro w' hS; (try dsimp only at hS); obtain ⟨s0, s1, s2, s3⟩ := hcl.out _ hS.out; go_simp; (first | done | with_reducible rfl)); (try simp only [Act.put, List.setIfInBounds_toArray, List.set_cons_zero, List.set_cons_succ])); (try simp only [Act.put, List.setIfInBounds_toArray, List.set_cons_zero, List.set_cons_succ])))
        (repeat (refine wpSeq_skip (by rfl) ?_; (try simp only [Act.put, List.setIfInBounds_toArray, List.set_cons_zero, List.set_cons_succ])))
        (repeat ((refine' wpSeq_take rfl _ (by rfl) ?_ ?_; rotate_left; focus (intro w' hS; (try dsimp only at hS); obtain ⟨s0, s1, s2, s3⟩ := hcl.out _ hS.out; go_simp; (first | done | with_reducible rfl)); (try simp only [Act.put, List.setIfInBounds_toArray, List.set_cons_zero, List.set_cons_succ])); (try simp only [Act.put, List.setIfInBounds_toArray, List.set_cons_zero, List.set_cons_succ])))
        refine wpSeq_nil ?_
        clear S
        have HI5 := hid (HI4.out.below (Below.drew (Below.refl _ _)))
        have HX5 := hid (Blk.drew HX.out)
        clear HI4 HX hbl hXl hcl
        generalize W4.drew = W5 at *
        clear hb1
        have x3 : W5.cell? ⟨X, 3, none⟩ = some (.int .i64 x.pl) := (HX5.out.cell 3).trans rfl
        have hXl5 := HX5.out.lt
        have hrl := HI5.out.tk.lt
        go_upto_region 6 with fail
        go_wp2_with fail
        refine (q_fail W5 b tb L s2 HI5.out.tk 9 x.pl).mono ?_
        rintro e w8 ⟨rfl, ht8, hg8⟩
        have HI8 := hid (HI5.out.step ht8 hg8)
        have HX8 := hid (HX5.out.grown hg8 (fun e => by have := HBX.out; simp at e; omega))
        have HFT := hid (fail_ts s2 9 x.pl)
        have HFE := hid (fun h => fail_e (s := s2) (k := 9) (p := x.pl) (by decide) h)
        have HZ8 : Hid (exactG n (s2.fail 9 x.pl).ts.length (es ++ [lnE x]) (s2.fail 9 x.pl) = Z) := by
          have h := HZ2.out
          rw [if_pos HBAD.out] at h
          show _ = _
          rw [exactG_end (.inl (fun h => HFE.out h))]
          exact h
        have HT8 : Hid (TsOk (s2.fail 9 x.pl).ts ∧ (s2.fail 9 x.pl).ts.length ≤ s'.ts.length ∧ ((s2.fail 9 x.pl).e = 0 → (s2.fail 9 x.pl).ts.length < s'.ts.length)) := ⟨by rw [HFT.out]; exact HLT.out.1, by rw [HFT.out]; exact HLT.out.2.1, fun h => (HFE.out h).elim⟩
        clear ht8 hg8 HI5 HX5 HFT HFE HZ2 x3 hXl5 hrl
        generalize s2.fail 9 x.pl = s3 at *
        dsimp only
        have HM2 := HM.out
        have hlxs : es.length ≤ 5001 := by have := HSZ.out; omega
        have x0 : w8.cell? ⟨X, 0, none⟩ = some (.int .i64 x.a) := (HX8.out.cell 0).trans rfl
        have x1 : w8.cell? ⟨X, 1, none⟩ = some (.int .i64 x.b) := (HX8.out.cell 1).trans rfl
        have x2 : w8.cell? ⟨X, 2, none⟩ = some (.int .i64 x.m) := (HX8.out.cell 2).trans rfl
        have hXl7 := HX8.out.lt
        have q1 : w8.cell? ⟨w.heap.size + 1, 1, none⟩ = some (.slice av es.length cp) := (HI8.out.bg.cell 1).trans rfl
        have hgl1 := HI8.out.bg.lt
        go_upto_region 7 with fail
        go_wp2_with (at_builtin; go_must (refine wpList_append_own _ rfl _ _ 22 rfl (w.heap.size + 1 + 1) 82 i0 (.agg #[.int .i64 0, .int .i64 0, .int .i64 0]) 3 24 und_edges hi0 hz0 hz1 hz2 rfl (by decide) (.slice av es.length cp) es.length (es.flatMap E.cells) rfl (HI8.out.own.alloc _) ⟨w8.heap.size, 0, none⟩ 1 1 [.int .i64 x.a, .int .i64 x.b, .int .i64 x.m] rfl rfl (fun j u h => trip_news _ x.a x.b x.m _ j u h) (by simp [Value.oneCell']) (by unfold maxLen; omega) (by omega) (by simp; omega) ?_; intro v' w9 ho9 hg9 _; obtain ⟨va, vc, rfl, _⟩ := owns_at ho9; have hgT : (w8).grownBy w9 (Value.slice av es.length cp).ownBlock := (Below.toGrown ((Below.refl _ _).alloc (Nat.le_refl _) (.cells #[.int .i64 x.a, .int .i64 x.b, .int .i64 x.m] 82)) _).trans hg9; have HBG := HI8.out.bg.grown hgT (fun e => by have := (HI8.out.own.lt _ e).1; omega); have HJ9 := hid (HI8.out.push (es' := es ++ [lnE x]) (w' := w9) (by rw [List.flatMap_append, List.length_append]; exact ho9) hgT); have q9 : w9.cell? ⟨w.heap.size + 1, 1, none⟩ = some (.slice av es.length cp) := (HBG.cell 1).trans rfl; have f9 := HBG.frozen 1; have l9 := HBG.lt; clear hgT HBG ho9 hg9 q1 hgl1 x0 x1 x2 hXl7))
        go_roundg (gk - 1)
        case measure => omega
        case rel =>
          refine ⟨.slice va (es.length + 1) vc, es ++ [lnE x], s3, HJ9, by rw [List.length_append]; have := HT8.out.2.1; simp only [List.length_cons, List.length_nil]; omega, fun h => ?_, ?_⟩
          · have := HT8.out.2.2 h
            rw [List.length_append]
            simp only [List.length_cons, List.length_nil]
            omega
          · exact HZ8
      by_cases hem : es.length = 0
      case pos =>
        have HBAD : Hid (¬ badL es x) := by
          rintro (h | ⟨h, _⟩)
          · exact hb1 h
          · omega
        have hLp : ¬ (0 : Int) < (es.length : Int) := by omega
        clear hgl1
        let S : World → Prop := fun W' => Hid (Below W4.heap.size W4 W')
        (refine wp_region_text 37 [0,1,2,3,4,5,6,7,8,9,10,11,12,13,14,15,16,17,18,19,20,21,22,23,24,25,26,27,28,29,30,31,32,33,34,35,36] S (by kernel_rfl) (by kernel_rfl) (by intro _ _ d _ _ h; cases d <;> exact h) ?hS ?_; rotate_left; simp only [List.map_cons, List.map_nil, List.getD_cons_zero, List.getD_cons_succ, List.drop_succ_cons, List.drop_zero])
        case hS => exact Below.drew (Below.refl _ _)
        (repeat ((refine' wpSeq_take rfl _ (by rfl) ?_ ?_; rotate_left; focus (intro w' hS; (try dsimp only at hS); obtain ⟨s0, s1, s2, s3⟩ := hcl.out _ hS.out; go_simp; (first | done | with_reducible rfl)); (try simp only [Act.put, List.setIfInBounds_toArray, List.set_cons_zero, List.set_cons_succ])); (try simp only [Act.put, List.setIfInBounds_toArray, List.set_cons_zero, List.set_cons_succ])))
        (repeat (refine wpSeq_skip (by rfl) ?_; (try simp only [Act.put, List.setIfInBounds_toArray, List.set_cons_zero, List.set_cons_succ])))
        (repeat ((refine' wpSeq_take rfl _ (by rfl) ?_ ?_; rotate_left; focus (intro w' hS; (try dsimp only at hS); obtain ⟨s0, s1, s2, s3⟩ := hcl.out _ hS.out; go_simp; (first | done | with_reducible rfl)); (try simp only [Act.put, List.setIfInBounds_toArray, List.set_cons_zero, List.set_cons_succ])); (try simp only [Act.put, List.setIfInBounds_toArray, List.set_cons_zero, List.set_cons_succ])))
        refine wpSeq_nil ?_
        clear S
        have HI5 := hid (HI4.out.below (Below.drew (Below.refl _ _)))
        have HX5 := hid (Blk.drew HX.out)
        clear HI4 HX hbl hXl hcl
        generalize W4.drew = W5 at *
        clear hb1 hem hLp
        have HZ8 : Hid (exactG n s2.ts.length (es ++ [lnE x]) s2 = Z) := by
          have h := HZ2.out
          rw [if_neg HBAD.out] at h
          show _ = _
          rw [← h]
          exact exactG_fuel n _ _ _ _ HLT.out.1 (Nat.le_refl _) (by have := HLT.out.2.2 HE2.out; omega)
        have hrl := HI5.out.tk.lt
        clear HZ2
        have HM2 := HM.out
        have hlxs : es.length ≤ 5001 := by have := HSZ.out; omega
        have x0 : W5.cell? ⟨X, 0, none⟩ = some (.int .i64 x.a) := (HX5.out.cell 0).trans rfl
        have x1 : W5.cell? ⟨X, 1, none⟩ = some (.int .i64 x.b) := (HX5.out.cell 1).trans rfl
        have x2 : W5.cell? ⟨X, 2, none⟩ = some (.int .i64 x.m) := (HX5.out.cell 2).trans rfl
        have hXl7 := HX5.out.lt
        have q1 : W5.cell? ⟨w.heap.size + 1, 1, none⟩ = some (.slice av es.length cp) := (HI5.out.bg.cell 1).trans rfl
        have hgl1 := HI5.out.bg.lt
        go_upto_region 7 with fail
        go_wp2_with (at_builtin; go_must (refine wpList_append_own _ rfl _ _ 22 rfl (w.heap.size + 1 + 1) 82 i0 (.agg #[.int .i64 0, .int .i64 0, .int .i64 0]) 3 24 und_edges hi0 hz0 hz1 hz2 rfl (by decide) (.slice av es.length cp) es.length (es.flatMap E.cells) rfl (HI5.out.own.alloc _) ⟨W5.heap.size, 0, none⟩ 1 1 [.int .i64 x.a, .int .i64 x.b, .int .i64 x.m] rfl rfl (fun j u h => trip_news _ x.a x.b x.m _ j u h) (by simp [Value.oneCell']) (by unfold maxLen; omega) (by omega) (by simp; omega) ?_; intro v' w9 ho9 hg9 _; obtain ⟨va, vc, rfl, _⟩ := owns_at ho9; have hgT : (W5).grownBy w9 (Value.slice av es.length cp).ownBlock := (Below.toGrown ((Below.refl _ _).alloc (Nat.le_refl _) (.cells #[.int .i64 x.a, .int .i64 x.b, .int .i64 x.m] 82)) _).trans hg9; have HBG := HI5.out.bg.grown hgT (fun e => by have := (HI5.out.own.lt _ e).1; omega); have HJ9 := hid (HI5.out.push (es' := es ++ [lnE x]) (w' := w9) (by rw [List.flatMap_append, List.length_append]; exact ho9) hgT); have q9 : w9.cell? ⟨w.heap.size + 1, 1, none⟩ = some (.slice av es.length cp) := (HBG.cell 1).trans rfl; have f9 := HBG.frozen 1; have l9 := HBG.lt; clear hgT HBG ho9 hg9 q1 hgl1 x0 x1 x2 hXl7))
        go_roundg (gk - 1)
        case measure => omega
        case rel =>
          refine ⟨.slice va (es.length + 1) vc, es ++ [lnE x], s2, HJ9, by rw [List.length_append]; have := HLT.out.2.1; simp only [List.length_cons, List.length_nil]; omega, fun h => ?_, ?_⟩
          · have := HLT.out.2.2 h
            rw [List.length_append]
            simp only [List.length_cons, List.length_nil]
            omega
          · exact HZ8
      obtain ⟨j, hj⟩ : ∃ j, es.length = j + 1 := ⟨es.length - 1, by omega⟩
      obtain ⟨gq, capq, evq, hgq, y0, y1⟩ := HI4.out.last j hj
      injection evq with ev1 _ ev3
      subst ev1 ev3
      have HBL := hid (badL_less (x := x) hb1 (by omega : 0 < es.length))
      have HLS := hid (fun w => q_less (es[es.length - 1]?.getD default).a (es[es.length - 1]?.getD default).b x.a x.b w)
      have hcl2 : Hid (∀ W', Below W4.heap.size W4 W' → W'.cell? ⟨gq, j * 3, none⟩ = some (.int .i64 (es[es.length - 1]?.getD default).a) ∧ W'.cell? ⟨gq, j * 3 + 1, none⟩ = some (.int .i64 (es[es.length - 1]?.getD default).b)) := fun W' hB => ⟨(hB.cell (p := ⟨gq, j * 3, none⟩) hgq).trans y0, (hB.cell (p := ⟨gq, j * 3 + 1, none⟩) hgq).trans y1⟩
      generalize (es[es.length - 1]?.getD default).a = la at *
      generalize (es[es.length - 1]?.getD default).b = lb at *
      generalize lessB la lb x.a x.b = bl at *
      have hkI : (0 : Int) < (es.length : Int) := by omega
      have hkn : 0 < es.length := by omega
      have wj : IntKind.i64.wrap ((es.length : Int) - 1) = (j : Int) := by rw [IntWalk.i64_in _ (by have := HSZ.out; omega)]; omega
      have hjI : (j : Int) < (es.length : Int) := by omega
      have hj0 : (0 : Int) ≤ (j : Int) := by omega
      have hjN : j < es.length := by omega
      have hne : ¬ es = [] := fun e => by rw [e] at hkn; simp at hkn
      clear y0 y1 hj hem hgl1
      let S : World → Prop := fun W' => Hid (Below W4.heap.size W4 W')
      (refine wp_region_text 37 [0,1,2,3,4,5,6,7,8,9,10,11,12,13,14,15,16,17,18,19,20,21,22,23,24,25,26,27,28,29,30,31,32,33,34,35,36] S (by kernel_rfl) (by kernel_rfl) (by intro _ _ d _ _ h; cases d <;> exact h) ?hS ?_; rotate_left; simp only [List.map_cons, List.map_nil, List.getD_cons_zero, List.getD_cons_succ, List.drop_succ_cons, List.drop_zero])
      case hS => exact Below.drew (Below.refl _ _)
      (repeat ((refine' wpSeq_take rfl _ (by rfl) ?_ ?_; rotate_left; focus (intro w' hS; (try dsimp only at hS); obtain ⟨s0, s1, s2, s3⟩ := hcl.out _ hS.out; obtain ⟨s4, s5⟩ := hcl2.out _ hS.out; go_simp; (first | done | with_reducible rfl)); (try simp only [Act.put, List.setIfInBounds_toArray, List.set_cons_zero, List.set_cons_succ])); (try simp only [Act.put, List.setIfInBounds_toArray, List.set_cons_zero, List.set_cons_succ])))
      (refine wpSeq_call rfl (by rfl) (fun K hK => ?_); go_simp; refine ((HLS.out _)).mono ?_; rintro e w5 ⟨rfl, rfl⟩; refine hK _ _ ((Below.drew (Below.refl W4.heap.size W4))) ?_; clear hK K; (try simp only [Act.put, List.setIfInBounds_toArray, List.set_cons_zero, List.set_cons_succ]))
      clear hkI hkn wj hjI hj0 hjN hne HLS hcl2 hgq
      cases bl with
      | true =>
        have HBAD : Hid (¬ badL es x) := fun h => by have := HBL.out.1 h; cases this
        (repeat ((refine' wpSeq_take rfl _ (by rfl) ?_ ?_; rotate_left; focus (intro w' hS; (try dsimp only at hS); have s1 := hS; go_simp; (first | done | with_reducible rfl)); (try simp only [Act.put, List.setIfInBounds_toArray, List.set_cons_zero, List.set_cons_succ])); (try simp only [Act.put, List.setIfInBounds_toArray, List.set_cons_zero, List.set_cons_succ])))
        refine wpSeq_nil ?_
        clear S
        have HI5 := hid (HI4.out.below (Below.drew (Below.refl _ _)))
        have HX5 := hid (Blk.drew HX.out)
        clear HI4 HX hbl hXl hcl
        generalize W4.drew = W5 at *
        clear hb1 HBL
        have HZ8 : Hid (exactG n s2.ts.length (es ++ [lnE x]) s2 = Z) := by
          have h := HZ2.out
          rw [if_neg HBAD.out] at h
          show _ = _
          rw [← h]
          exact exactG_fuel n _ _ _ _ HLT.out.1 (Nat.le_refl _) (by have := HLT.out.2.2 HE2.out; omega)
        have hrl := HI5.out.tk.lt
        clear HZ2
        have HM2 := HM.out
        have hlxs : es.length ≤ 5001 := by have := HSZ.out; omega
        have x0 : W5.cell? ⟨X, 0, none⟩ = some (.int .i64 x.a) := (HX5.out.cell 0).trans rfl
        have x1 : W5.cell? ⟨X, 1, none⟩ = some (.int .i64 x.b) := (HX5.out.cell 1).trans rfl
        have x2 : W5.cell? ⟨X, 2, none⟩ = some (.int .i64 x.m) := (HX5.out.cell 2).trans rfl
        have hXl7 := HX5.out.lt
        have q1 : W5.cell? ⟨w.heap.size + 1, 1, none⟩ = some (.slice (some ⟨gq, 0, none⟩) es.length cp) := (HI5.out.bg.cell 1).trans rfl
        have hgl1 := HI5.out.bg.lt
        go_upto_region 7 with fail
        go_wp2_with (at_builtin; go_must (refine wpList_append_own _ rfl _ _ 22 rfl (w.heap.size + 1 + 1) 82 i0 (.agg #[.int .i64 0, .int .i64 0, .int .i64 0]) 3 24 und_edges hi0 hz0 hz1 hz2 rfl (by decide) (.slice (some ⟨gq, 0, none⟩) es.length cp) es.length (es.flatMap E.cells) rfl (HI5.out.own.alloc _) ⟨W5.heap.size, 0, none⟩ 1 1 [.int .i64 x.a, .int .i64 x.b, .int .i64 x.m] rfl rfl (fun j u h => trip_news _ x.a x.b x.m _ j u h) (by simp [Value.oneCell']) (by unfold maxLen; omega) (by omega) (by simp; omega) ?_; intro v' w9 ho9 hg9 _; obtain ⟨va, vc, rfl, _⟩ := owns_at ho9; have hgT : (W5).grownBy w9 (Value.slice (some ⟨gq, 0, none⟩) es.length cp).ownBlock := (Below.toGrown ((Below.refl _ _).alloc (Nat.le_refl _) (.cells #[.int .i64 x.a, .int .i64 x.b, .int .i64 x.m] 82)) _).trans hg9; have HBG := HI5.out.bg.grown hgT (fun e => by have := (HI5.out.own.lt _ e).1; omega); have HJ9 := hid (HI5.out.push (es' := es ++ [lnE x]) (w' := w9) (by rw [List.flatMap_append, List.length_append]; exact ho9) hgT); have q9 : w9.cell? ⟨w.heap.size + 1, 1, none⟩ = some (.slice (some ⟨gq, 0, none⟩) es.length cp) := (HBG.cell 1).trans rfl; have f9 := HBG.frozen 1; have l9 := HBG.lt; clear hgT HBG ho9 hg9 q1 hgl1 x0 x1 x2 hXl7))
        go_roundg (gk - 1)
        case measure => omega
        case rel =>
          refine ⟨.slice va (es.length + 1) vc, es ++ [lnE x], s2, HJ9, by rw [List.length_append]; have := HLT.out.2.1; simp only [List.length_cons, List.length_nil]; omega, fun h => ?_, ?_⟩
          · have := HLT.out.2.2 h
            rw [List.length_append]
            simp only [List.length_cons, List.length_nil]
            omega
          · exact HZ8
      | false =>
        have HBAD : Hid (badL es x) := HBL.out.2 rfl
        (repeat ((refine' wpSeq_take rfl _ (by rfl) ?_ ?_; rotate_left; focus (intro w' hS; (try dsimp only at hS); have s1 := hS; go_simp; (first | done | with_reducible rfl)); (try simp only [Act.put, List.setIfInBounds_toArray, List.set_cons_zero, List.set_cons_succ])); (try simp only [Act.put, List.setIfInBounds_toArray, List.set_cons_zero, List.set_cons_succ])))
        refine wpSeq_nil ?_
        clear S
        have HI5 := hid (HI4.out.below (Below.drew (Below.refl _ _)))
        have HX5 := hid (Blk.drew HX.out)
        clear HI4 HX hbl hXl hcl
        generalize W4.drew = W5 at *
        clear hb1 HBL
        have x3 : W5.cell? ⟨X, 3, none⟩ = some (.int .i64 x.pl) := (HX5.out.cell 3).trans rfl
        have hXl5 := HX5.out.lt
        have hrl := HI5.out.tk.lt
        go_upto_region 6 with fail
        go_wp2_with fail
        refine (q_fail W5 b tb L s2 HI5.out.tk 9 x.pl).mono ?_
        rintro e w8 ⟨rfl, ht8, hg8⟩
        have HI8 := hid (HI5.out.step ht8 hg8)
        have HX8 := hid (HX5.out.grown hg8 (fun e => by have := HBX.out; simp at e; omega))
        have HFT := hid (fail_ts s2 9 x.pl)
        have HFE := hid (fun h => fail_e (s := s2) (k := 9) (p := x.pl) (by decide) h)
        have HZ8 : Hid (exactG n (s2.fail 9 x.pl).ts.length (es ++ [lnE x]) (s2.fail 9 x.pl) = Z) := by
          have h := HZ2.out
          rw [if_pos HBAD.out] at h
          show _ = _
          rw [exactG_end (.inl (fun h => HFE.out h))]
          exact h
        have HT8 : Hid (TsOk (s2.fail 9 x.pl).ts ∧ (s2.fail 9 x.pl).ts.length ≤ s'.ts.length ∧ ((s2.fail 9 x.pl).e = 0 → (s2.fail 9 x.pl).ts.length < s'.ts.length)) := ⟨by rw [HFT.out]; exact HLT.out.1, by rw [HFT.out]; exact HLT.out.2.1, fun h => (HFE.out h).elim⟩
        clear ht8 hg8 HI5 HX5 HFT HFE HZ2 x3 hXl5 hrl
        generalize s2.fail 9 x.pl = s3 at *
        dsimp only
        have HM2 := HM.out
        have hlxs : es.length ≤ 5001 := by have := HSZ.out; omega
        have x0 : w8.cell? ⟨X, 0, none⟩ = some (.int .i64 x.a) := (HX8.out.cell 0).trans rfl
        have x1 : w8.cell? ⟨X, 1, none⟩ = some (.int .i64 x.b) := (HX8.out.cell 1).trans rfl
        have x2 : w8.cell? ⟨X, 2, none⟩ = some (.int .i64 x.m) := (HX8.out.cell 2).trans rfl
        have hXl7 := HX8.out.lt
        have q1 : w8.cell? ⟨w.heap.size + 1, 1, none⟩ = some (.slice (some ⟨gq, 0, none⟩) es.length cp) := (HI8.out.bg.cell 1).trans rfl
        have hgl1 := HI8.out.bg.lt
        go_upto_region 7 with fail
        go_wp2_with (at_builtin; go_must (refine wpList_append_own _ rfl _ _ 22 rfl (w.heap.size + 1 + 1) 82 i0 (.agg #[.int .i64 0, .int .i64 0, .int .i64 0]) 3 24 und_edges hi0 hz0 hz1 hz2 rfl (by decide) (.slice (some ⟨gq, 0, none⟩) es.length cp) es.length (es.flatMap E.cells) rfl (HI8.out.own.alloc _) ⟨w8.heap.size, 0, none⟩ 1 1 [.int .i64 x.a, .int .i64 x.b, .int .i64 x.m] rfl rfl (fun j u h => trip_news _ x.a x.b x.m _ j u h) (by simp [Value.oneCell']) (by unfold maxLen; omega) (by omega) (by simp; omega) ?_; intro v' w9 ho9 hg9 _; obtain ⟨va, vc, rfl, _⟩ := owns_at ho9; have hgT : (w8).grownBy w9 (Value.slice (some ⟨gq, 0, none⟩) es.length cp).ownBlock := (Below.toGrown ((Below.refl _ _).alloc (Nat.le_refl _) (.cells #[.int .i64 x.a, .int .i64 x.b, .int .i64 x.m] 82)) _).trans hg9; have HBG := HI8.out.bg.grown hgT (fun e => by have := (HI8.out.own.lt _ e).1; omega); have HJ9 := hid (HI8.out.push (es' := es ++ [lnE x]) (w' := w9) (by rw [List.flatMap_append, List.length_append]; exact ho9) hgT); have q9 : w9.cell? ⟨w.heap.size + 1, 1, none⟩ = some (.slice (some ⟨gq, 0, none⟩) es.length cp) := (HBG.cell 1).trans rfl; have f9 := HBG.frozen 1; have l9 := HBG.lt; clear hgT HBG ho9 hg9 q1 hgl1 x0 x1 x2 hXl7))
        go_roundg (gk - 1)
        case measure => omega
        case rel =>
          refine ⟨.slice va (es.length + 1) vc, es ++ [lnE x], s3, HJ9, by rw [List.length_append]; have := HT8.out.2.1; simp only [List.length_cons, List.length_nil]; omega, fun h => ?_, ?_⟩
          · have := HT8.out.2.2 h
            rw [List.length_append]
            simp only [List.length_cons, List.length_nil]
            omega
          · exact HZ8

end Go.Proofs.YtemmepgfngkgmaaGreatDoor
