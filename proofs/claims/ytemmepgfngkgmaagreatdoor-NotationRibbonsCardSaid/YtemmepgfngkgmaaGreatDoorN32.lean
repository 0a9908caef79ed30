/-
  The reference's reader in memory: now, fail, is, need, number, mult, done.
-/
import Derived.Test.YtemmepgfngkgmaaGreatDoorN30
namespace Go.Proofs.YtemmepgfngkgmaaGreatDoor
open Go.RowKit
set_option linter.unusedVariables false
set_option linter.unusedSimpArgs false

/-- The reference's reader at block b: the tokens L, and what of them is still to be read. -/
def Rk (w : World) (b tb : Nat) (L : List Tok) (s : Rs) : Prop :=
  TsOk s.ts ∧ TsOk L ∧ ∃ off cap j, s.ts = L.drop j ∧ Blk w b #[.slice (some ⟨tb, off, none⟩) L.length cap, .int .i64 ((j : Nat) : Int), .int .i64 s.e, .int .i64 s.pl] 107 ∧ tb ≠ b ∧ ToksR w (.slice (some ⟨tb, off, none⟩) L.length cap) L
theorem Rk.lt {w : World} {b tb : Nat} {L : List Tok} {s : Rs} (h : Rk w b tb L s) : b < w.heap.size := by obtain ⟨_, _, _, _, _, _, hb, _⟩ := h; exact hb.lt
theorem Rk.below {w w' : World} {b tb : Nat} {L : List Tok} {s : Rs} (h : Rk w b tb L s) (hB : Below w.heap.size w w') : Rk w' b tb L s := by
  obtain ⟨h0, h1, off, cap, j, h2, hb, hne, ht⟩ := h
  exact ⟨h0, h1, off, cap, j, h2, hb.below hB, hne, ht.below hB⟩
theorem Rk.grownR {w w' : World} {b tb : Nat} {L : List Tok} {s : Rs} {r : Option Nat} (h : Rk w b tb L s) (hg : w.grownBy w' r) (h1 : r ≠ some b) (h2 : r ≠ some tb) : Rk w' b tb L s := by
  obtain ⟨a0, a1, off, cap, j, e, hb, hne, ht⟩ := h
  exact ⟨a0, a1, off, cap, j, e, hb.grown hg h1, hne, ht.grownR hg (fun x hx => by cases hx; exact Ne.symm h2)⟩
theorem Rk.frozen {w : World} {b tb : Nat} {L : List Tok} {s : Rs} (h : Rk w b tb L s) (k : Nat) : w.frozen? ⟨b, k, none⟩ = false := by obtain ⟨_, _, _, _, _, _, hb, _⟩ := h; exact hb.frozen k
theorem Rk.cells {w : World} {b tb : Nat} {L : List Tok} {s : Rs} (h : Rk w b tb L s) :
    ∃ off cap j, tb < w.heap.size ∧ tb ≠ b ∧ j < L.length ∧ L.length ≤ 4097 ∧ L.length ≤ cap ∧ cap ≤ 9223372036854775807 ∧ s.ts = L.drop j ∧ w.cell? ⟨b, 0, none⟩ = some (.slice (some ⟨tb, off, none⟩) L.length cap) ∧ w.cell? ⟨b, 1, none⟩ = some (.int .i64 ((j : Nat) : Int)) ∧
      w.cell? ⟨b, 2, none⟩ = some (.int .i64 s.e) ∧ w.cell? ⟨b, 3, none⟩ = some (.int .i64 s.pl) ∧ w.cell? ⟨tb, off + j * 3, none⟩ = some (.int .i64 s.now.kind) ∧ w.cell? ⟨tb, off + j * 3 + 1, none⟩ = some (.string (str s.now.text)) ∧ w.cell? ⟨tb, off + j * 3 + 2, none⟩ = some (.int .i64 s.now.pos) := by
  obtain ⟨h0, h1, off, cap, j, e, hb, hne, ht⟩ := h
  obtain ⟨a', cap', e2, h2, h3, h4, h5⟩ := ht
  injection e2 with e1 e2 e3
  subst e1 e3
  have hj : j < L.length := by have := h0.1; rw [e, List.length_drop] at this; omega
  obtain ⟨b', off', e4, hlt, hc⟩ := h5.tok (by omega)
  obtain ⟨rfl, rfl⟩ : tb = b' ∧ off = off' := by simpa using e4
  obtain ⟨c0, c1, c2⟩ := hc j hj
  have hn : s.now = L[j]?.getD default := by unfold Rs.now; rw [e, List.getElem?_drop]; simp
  have d0 := hb.cell 0
  have d1 := hb.cell 1
  have d2 := hb.cell 2
  have d3 := hb.cell 3
  simp only [List.getElem?_toArray, List.getElem?_cons_zero, List.getElem?_cons_succ] at d0 d1 d2 d3
  rw [hn]
  exact ⟨off, cap, j, hlt, hne, hj, h1.2.1, h2, h3, e, d0, d1, d2, d3, c0, c1, c2⟩

theorem load_tok3 {w : World} {b : Nat} {v0 v1 v2 : Value} (h : Blk w b #[v0, v1, v2] 134) : (loadVar 134 ⟨b, 0, none⟩).run Tryz.prog w = .ok (.agg #[v0, v1, v2]) w := by
  have hlt := h.lt
  have c0 := h.cell 0
  have c1 := h.cell 1
  have c2 := h.cell 2
  simp only [List.getElem?_toArray, List.getElem?_cons_zero, List.getElem?_cons_succ] at c0 c1 c2
  go_simp
set_option maxRecDepth 100000 in
set_option maxHeartbeats 1000000 in
theorem q_now (w : World) (b tb : Nat) (L : List Tok) (s : Rs) (h : Rk w b tb L s) :
    Calls Tryz.prog 72 #[.pointer (some ⟨b, 0, none⟩)] w fun e w' => e = .returned (.agg #[.int .i64 s.now.kind, .string (str s.now.text), .int .i64 s.now.pos]) ∧ Below w.heap.size w w' := by
  obtain ⟨off, cap, j, hlt, hne, hj, hl, h2, h3, _, d0, d1, d2, d3, c0, c1, c2⟩ := h.cells
  have hbl := h.lt
  generalize s.now = t at *
  generalize L.length = n at *
  have hj1 : (j : Int) < (n : Int) := by omega
  have hj0 : (0 : Int) ≤ (j : Int) := by omega
  clear d2 d3 h
  have hcl : Hid (∀ W', Below w.heap.size w W' → W'.cell? ⟨b, 0, none⟩ = some (.slice (some ⟨tb, off, none⟩) n cap) ∧ W'.cell? ⟨b, 1, none⟩ = some (.int .i64 ((j : Nat) : Int)) ∧ W'.cell? ⟨tb, off + j * 3, none⟩ = some (.int .i64 t.kind) ∧ W'.cell? ⟨tb, off + j * 3 + 1, none⟩ = some (.string (str t.text)) ∧ W'.cell? ⟨tb, off + j * 3 + 2, none⟩ = some (.int .i64 t.pos) ∧ b < W'.heap.size ∧ tb < W'.heap.size) := fun W' hB =>
    ⟨(hB.cell (p := ⟨b, 0, none⟩) hbl).trans d0, (hB.cell (p := ⟨b, 1, none⟩) hbl).trans d1, (hB.cell (p := ⟨tb, _, none⟩) hlt).trans c0, (hB.cell (p := ⟨tb, _, none⟩) hlt).trans c1, (hB.cell (p := ⟨tb, _, none⟩) hlt).trans c2, Nat.lt_of_lt_of_le hbl hB.size, Nat.lt_of_lt_of_le hlt hB.size⟩
  have HB0 := hid ((Below.refl w.heap.size w).alloc (Nat.le_refl _) (.cells #[.int .i64 0, .string { data := #[] }, .int .i64 0] 134))
  have HX0 := hid (Blk.new w #[.int .i64 0, .string { data := #[] }, .int .i64 0] 134)
  clear d0 d1 c0 c1 c2 hbl hlt
  go_enter Tryz.func72, Tryz.ntmps72
  go_upto_region 1 with fail
  generalize w.alloc (.cells #[.int .i64 0, .string { data := #[] }, .int .i64 0] 134) = W0 at *
  let S : World → Prop := fun W' => Hid (Below w.heap.size w W')
  (refine wp_region_text 10 [0,1,2,3,4,5,6,7,8,9] S (by kernel_rfl) (by kernel_rfl) (by intro _ _ d _ _ h; cases d <;> exact h) ?hS ?_; rotate_left; simp only [List.map_cons, List.map_nil, List.getD_cons_zero, List.getD_cons_succ, List.drop_succ_cons, List.drop_zero])
  case hS => exact Below.drew HB0.out
  (repeat ((refine' wpSeq_take rfl _ (by rfl) ?_ ?_; rotate_left; focus (intro w' hS; (try dsimp only at hS); obtain ⟨s0, s1, s2, s3, s4, s5, s6⟩ := hcl.out _ hS.out; go_simp; (first | done | with_reducible rfl)); (try simp only [Act.put, List.setIfInBounds_toArray, List.set_cons_zero, List.set_cons_succ])); (try simp only [Act.put, List.setIfInBounds_toArray, List.set_cons_zero, List.set_cons_succ])))
  refine wpSeq_nil ?_
  clear S
  have x0 := HX0.out.cell 0
  have x1 := HX0.out.cell 1
  have x2 := HX0.out.cell 2
  simp only [List.getElem?_toArray, List.getElem?_cons_zero, List.getElem?_cons_succ] at x0 x1 x2
  have f0 := HX0.out.frozen 0
  have f1 := HX0.out.frozen 1
  have f2 := HX0.out.frozen 2
  have xl := HX0.out.lt
  go_wp2_with fail
  have HX1 := hid (((HX0.out.set 0 (.int .i64 t.kind)).set 1 (.string (str t.text))).set 2 (.int .i64 t.pos))
  refine bodyPost_ret (results_cell1' rfl rfl (load_tok3 (Blk.drew HX1.out))) rfl ?_
  exact ⟨rfl, ((((HB0.out.setCell (Nat.le_refl _) _).setCell (Nat.le_refl _) _).setCell (Nat.le_refl _) _).drew)⟩

theorem Rk.adv {w : World} {b tb j : Nat} {L : List Tok} {s : Rs} (h : Rk w b tb L s) (hc : w.cell? ⟨b, 1, none⟩ = some (.int .i64 ((j : Nat) : Int))) (hk : s.now.kind ≠ 3) :
    Rk (w.setCell ⟨b, 1, none⟩ (.int .i64 ((j : Int) + 1))) b tb L s.skip ∧ TsOk s.skip.ts := by
  obtain ⟨h0, h1, off, cap, j', e, hb, hne, ht⟩ := h
  have d1 := hb.cell 1
  simp only [List.getElem?_toArray, List.getElem?_cons_zero, List.getElem?_cons_succ] at d1
  rw [hc] at d1
  have e3 : (j : Int) = (j' : Int) := by simpa using d1
  obtain rfl : j = j' := by omega
  have hs := h0.drop hk
  refine ⟨⟨hs, h1, off, cap, j + 1, ?_, ?_, hne, ht.grown (grown_set _ _ _ _) (fun x hx => by cases hx; exact hne)⟩, hs⟩
  · show s.ts.drop 1 = _
    rw [e, List.drop_drop]
  · have := hb.set 1 (.int .i64 ((j : Int) + 1))
    have e2 : ((j + 1 : Nat) : Int) = (j : Int) + 1 := by omega
    rw [e2]
    show Blk _ _ #[_, _, .int .i64 s.e, .int .i64 s.pl] _
    simpa only [List.setIfInBounds_toArray, List.set_cons_zero, List.set_cons_succ] using this
theorem Rk.set2 {w : World} {b tb : Nat} {L : List Tok} {s : Rs} (h : Rk w b tb L s) (k : Int) : Rk (w.setCell ⟨b, 2, none⟩ (.int .i64 k)) b tb L ⟨s.ts, k, s.pl⟩ := by
  obtain ⟨h0, h1, off, cap, j, e, hb, hne, ht⟩ := h
  refine ⟨h0, h1, off, cap, j, e, ?_, hne, ht.grown (grown_set _ _ _ _) (fun x hx => by cases hx; exact hne)⟩
  have := hb.set 2 (.int .i64 k)
  simpa only [List.setIfInBounds_toArray, List.set_cons_zero, List.set_cons_succ] using this
theorem Rk.set3 {w : World} {b tb : Nat} {L : List Tok} {s : Rs} (h : Rk w b tb L s) (k : Int) : Rk (w.setCell ⟨b, 3, none⟩ (.int .i64 k)) b tb L ⟨s.ts, s.e, k⟩ := by
  obtain ⟨h0, h1, off, cap, j, e, hb, hne, ht⟩ := h
  refine ⟨h0, h1, off, cap, j, e, ?_, hne, ht.grown (grown_set _ _ _ _) (fun x hx => by cases hx; exact hne)⟩
  have := hb.set 3 (.int .i64 k)
  simpa only [List.setIfInBounds_toArray, List.set_cons_zero, List.set_cons_succ] using this

set_option maxRecDepth 100000 in
set_option maxHeartbeats 1000000 in
theorem q_fail (w : World) (b tb : Nat) (L : List Tok) (s : Rs) (h : Rk w b tb L s) (k p : Int) :
    Calls Tryz.prog 71 #[.pointer (some ⟨b, 0, none⟩), .int .i64 k, .int .i64 p] w fun e w' => e = .returned (.tuple #[]) ∧ Rk w' b tb L (s.fail k p) ∧ w.grownBy w' (some b) := by
  obtain ⟨off, cap, j, hlt, hne, hj, hl, h2, h3, _, d0, d1, d2, d3, c0, c1, c2⟩ := h.cells
  have hbl := h.lt
  have f2 := h.frozen 2
  have f3 := h.frozen 3
  by_cases he : s.e = 0
  · have HR : Hid (Rk ((w.setCell ⟨b, 2, none⟩ (.int .i64 k)).setCell ⟨b, 3, none⟩ (.int .i64 p)) b tb L (s.fail k p)) := by
      have := (h.set2 k).set3 p
      unfold Rs.fail
      rw [if_pos he]
      exact this
    rw [he] at d2
    clear hj hl h2 h3 d0 d1 c0 c1 c2 h he
    go_enter Tryz.func71, Tryz.ntmps71
    go_wp2
    go_end0
    exact ⟨rfl, HR.out, grown_trans (grown_set _ _ _ _) (grown_set _ _ _ _)⟩
  · have HR : Hid (Rk w b tb L (s.fail k p)) := by
      unfold Rs.fail
      rw [if_neg he]
      exact h
    have he1 : (s.e == 0) = false := by simpa using he
    generalize s.e = z at *
    clear hj hl h2 h3 d0 d1 c0 c1 c2 h he
    go_enter Tryz.func71, Tryz.ntmps71
    go_wp2
    go_end0
    exact ⟨rfl, HR.out, World.grownBy.refl _ _⟩

set_option maxRecDepth 100000 in
set_option maxHeartbeats 1000000 in
theorem q_is (w : World) (b tb : Nat) (L : List Tok) (s : Rs) (h : Rk w b tb L s) (t : List UInt8) :
    Calls Tryz.prog 69 #[.pointer (some ⟨b, 0, none⟩), .string (str t)] w fun e w' => e = .returned (.bool (s.is t)) ∧ Below w.heap.size w w' := by
  obtain ⟨off, cap, j, hlt, hne, hj, hl, h2, h3, _, d0, d1, d2, d3, c0, c1, c2⟩ := h.cells
  have hbl := h.lt
  have HN := hid (fun (w1 : World) (hB : Below w.heap.size w w1) => q_now w1 b tb L s (h.below hB))
  have q0 := tok_kind
  have q1 := tok_text
  have q2 := tok_pos
  clear d0 d1 d3 c0 c1 c2 h hj hl h2 h3 hne hlt
  by_cases he : s.e = 0
  · rw [he] at d2
    by_cases htx : s.now.text = t
    · have hz := hid (show s.is t = decide (s.now.kind ≠ 3) by unfold Rs.is Rs.more; simp [he, htx])
      have hse : ((str s.now.text).toList == (str t).toList) = true := by rw [str_eql]; simpa using htx
      have HSE := hid hse
      by_cases hk : s.now.kind = 3
      · have hz2 : Hid (s.is t = false) := by show _ = _; rw [hz.out]; simp [hk]
        rw [hk] at HN
        clear hz htx hk he
        go_enter Tryz.func69, Tryz.ntmps69
        go_wp2_with fail
        refine (HN.out w (Below.refl _ _)).mono ?_
        rintro e w1 ⟨rfl, hB⟩
        have HB := hid hB
        clear hB
        dsimp only
        go_wp2_with fail
        refine (HN.out w1 HB.out).mono ?_
        rintro e w2 ⟨rfl, hB2⟩
        dsimp only
        go_wp2_with fail
        go_ret
        exact ⟨ret_bool hz2.out.symm, up HB.out hB2⟩
      · have hz2 : Hid (s.is t = true) := by show _ = _; rw [hz.out]; simp [hk]
        have hkb : (s.now.kind != 3) = true := by simpa using hk
        generalize s.now.kind = kk at *
        clear hz htx hk he
        go_enter Tryz.func69, Tryz.ntmps69
        go_wp2_with fail
        refine (HN.out w (Below.refl _ _)).mono ?_
        rintro e w1 ⟨rfl, hB⟩
        have HB := hid hB
        clear hB
        dsimp only
        go_wp2_with fail
        refine (HN.out w1 HB.out).mono ?_
        rintro e w2 ⟨rfl, hB2⟩
        dsimp only
        go_wp2_with fail
        go_ret
        exact ⟨ret_bool hz2.out.symm, up HB.out hB2⟩
    · have hz := hid (show s.is t = false by unfold Rs.is Rs.more; simp [htx])
      have hse : ((str s.now.text).toList == (str t).toList) = false := by rw [str_eql]; simpa using htx
      clear he htx
      go_enter Tryz.func69, Tryz.ntmps69
      go_wp2_with fail
      refine (HN.out w (Below.refl _ _)).mono ?_
      rintro e w1 ⟨rfl, hB⟩
      dsimp only
      go_wp2_with fail
      go_ret
      exact ⟨ret_bool hz.out.symm, hB⟩
  · have hz := hid (show s.is t = false by unfold Rs.is Rs.more; simp [he])
    have he1 : (s.e == 0) = false := by simpa using he
    generalize s.e = z at *
    clear HN he
    go_enter Tryz.func69, Tryz.ntmps69
    go_wp2_with fail
    go_ret
    exact ⟨ret_bool hz.out.symm, Below.refl _ _⟩

set_option maxRecDepth 100000 in
set_option maxHeartbeats 1000000 in
theorem q_done (w : World) (b tb : Nat) (L : List Tok) (s : Rs) (h : Rk w b tb L s) :
    Calls Tryz.prog 68 #[.pointer (some ⟨b, 0, none⟩)] w fun e w' => e = .returned (.bool (!s.more)) ∧ Below w.heap.size w w' := by
  obtain ⟨off, cap, j, hlt, hne, hj, hl, h2, h3, _, d0, d1, d2, d3, c0, c1, c2⟩ := h.cells
  have hbl := h.lt
  have HN := hid (q_now w b tb L s h)
  have q0 := tok_kind
  have q1 := tok_text
  have q2 := tok_pos
  clear d0 d1 d3 c0 c1 c2 h hj hl h2 h3 hne hlt
  by_cases he : s.e = 0
  · rw [he] at d2
    by_cases hk : s.now.kind = 3
    · have hz := hid (show s.more = false by unfold Rs.more; rw [hk]; simp)
      rw [hk] at HN
      clear hk he
      go_enter Tryz.func68, Tryz.ntmps68
      go_wp2_with fail
      refine HN.out.mono ?_
      rintro e w1 ⟨rfl, hB⟩
      dsimp only
      go_wp2_with fail
      go_ret
      exact ⟨ret_bool (by rw [hz.out]; rfl), hB⟩
    · have hz := hid (show s.more = true by unfold Rs.more; simp [he, hk])
      have hkb : (s.now.kind == 3) = false := by simpa using hk
      generalize s.now.kind = kk at *
      clear hk he
      go_enter Tryz.func68, Tryz.ntmps68
      go_wp2_with fail
      refine HN.out.mono ?_
      rintro e w1 ⟨rfl, hB⟩
      dsimp only
      go_wp2_with fail
      go_ret
      exact ⟨ret_bool (by rw [hz.out]; rfl), hB⟩
  · have hz := hid (show s.more = false by unfold Rs.more; simp [he])
    have he1 : (s.e != 0) = true := by simpa using he
    generalize s.e = z at *
    clear HN he
    go_enter Tryz.func68, Tryz.ntmps68
    go_wp2_with fail
    go_ret
    exact ⟨ret_bool (by rw [hz.out]; rfl), Below.refl _ _⟩

/-- The next token is passed over. -/
theorem Rk.step1 {w : World} {b tb : Nat} {L : List Tok} {s : Rs} (h : Rk w b tb L s) (hk : s.now.kind ≠ 3) : ∃ j : Nat, j ≤ 4097 ∧ w.cell? ⟨b, 1, none⟩ = some (.int .i64 ((j : Nat) : Int)) ∧ Rk (w.setCell ⟨b, 1, none⟩ (.int .i64 ((j : Int) + 1))) b tb L s.skip := by
  obtain ⟨off, cap, j, hlt, hne, hj, hl, h2, h3, _, d0, d1, d2, d3, c0, c1, c2⟩ := h.cells
  exact ⟨j, by omega, d1, (h.adv d1 hk).1⟩

set_option maxRecDepth 100000 in
set_option maxHeartbeats 1000000 in
theorem q_need (w : World) (b tb : Nat) (L : List Tok) (s : Rs) (h : Rk w b tb L s) (t : List UInt8) :
    Calls Tryz.prog 105 #[.pointer (some ⟨b, 0, none⟩), .string (str t)] w fun e w' => e = .returned (.tuple #[]) ∧ Rk w' b tb L (s.need t) ∧ w.grownBy w' (some b) := by
  have HI := hid (q_is w b tb L s h t)
  have hT := hid h
  have hbl := h.lt
  unfold Rs.need
  have q0 := tok_kind
  have q1 := tok_text
  have q2 := tok_pos
  cases hi : s.is t with
  | true =>
    have HK := hid (Rs.is_kind hi).1
    rw [hi] at HI
    clear hi h
    rw [if_pos rfl]
    go_enter Tryz.func105, Tryz.ntmps105
    go_wp2_with fail
    refine HI.out.mono ?_
    rintro e w1 ⟨rfl, hB⟩
    have HB := hid hB
    obtain ⟨j, hj, d1, hR⟩ := (hT.out.below hB).step1 HK.out
    have HR := hid hR
    have f1 := (hT.out.below hB).frozen 1
    have hl1 := (hT.out.below hB).lt
    have wj : IntKind.i64.wrap ((j : Int) + 1) = (j : Int) + 1 := IntWalk.i64_in _ (by omega)
    clear hB hR
    dsimp only
    go_wp2_with fail
    go_end0
    exact ⟨rfl, HR.out, grown_trans (grown_of HB.out _) (grown_set _ _ _ _)⟩
  | false =>
    rw [hi] at HI
    clear hi h
    rw [if_neg (by decide)]
    go_enter Tryz.func105, Tryz.ntmps105
    go_wp2_with fail
    refine HI.out.mono ?_
    rintro e w1 ⟨rfl, hB⟩
    have HB := hid hB
    clear hB
    dsimp only
    go_wp2_with fail
    refine (q_now w1 b tb L s (hT.out.below HB.out)).mono ?_
    rintro e w2 ⟨rfl, hB2⟩
    have HB2 := hid (up HB.out hB2)
    clear hB2
    dsimp only
    go_wp2_with fail
    refine (q_fail w2 b tb L s (hT.out.below HB2.out) 4 s.now.pos).mono ?_
    rintro e w3 ⟨rfl, hT3, hg⟩
    dsimp only
    go_wp2_with fail
    refine bodyPost_ret (results_none rfl _ _ _) rfl ?_
    exact ⟨rfl, hT3, grown_trans (grown_of HB2.out _) hg⟩

end Go.Proofs.YtemmepgfngkgmaaGreatDoor
