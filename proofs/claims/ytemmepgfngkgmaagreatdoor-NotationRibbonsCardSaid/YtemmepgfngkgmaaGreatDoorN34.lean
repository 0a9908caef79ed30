/-
  The reference's reader: open, head, line.
-/
import Derived.Test.YtemmepgfngkgmaaGreatDoorN33
namespace Go.Proofs.YtemmepgfngkgmaaGreatDoor
open Go.RowKit
set_option linter.unusedVariables false
set_option linter.unusedSimpArgs false

theorem load_reader {w : World} {b : Nat} {v0 v1 v2 v3 : Value} (h : Blk w b #[v0, v1, v2, v3] 107) : (loadVar 107 ⟨b, 0, none⟩).run Tryz.prog w = .ok (.agg #[v0, v1, v2, v3]) w := by
  have hlt := h.lt
  have c0 := h.cell 0
  have c1 := h.cell 1
  have c2 := h.cell 2
  have c3 := h.cell 3
  simp only [List.getElem?_toArray, List.getElem?_cons_zero, List.getElem?_cons_succ] at c0 c1 c2 c3
  go_simp
def RetO (w : World) (s : Rs) (e : Ending) (w' : World) : Prop := ∃ lv, e = .returned (.agg #[lv, .int .i64 0, .int .i64 s.e, .int .i64 s.pl]) ∧ ToksR w' lv s.ts ∧ Below w.heap.size w w'

set_option maxRecDepth 100000 in
set_option maxHeartbeats 1000000 in
theorem q_open (s : List UInt8) (w : World) : Calls Tryz.prog 51 #[.string (str s)] w (RetO w (opened (scanR s))) := by
  have hs := hid (fun w => r_Scan s w)
  have hB0 := hid (Below.alloc (Below.refl w.heap.size w) (Nat.le_refl _) (.cells #[.slice none 0 0, .int .i64 0, .int .i64 0, .int .i64 0] 107))
  have hb0 := hid (Blk.new w #[.slice none 0 0, .int .i64 0, .int .i64 0, .int .i64 0] 107)
  cases hz : scanR s with
  | inl x =>
    have h0 := scan_no hz
    rw [hz] at hs
    clear hz
    obtain ⟨x1, x2⟩ := x
    have hx : (x2 != 0) = true := by simpa using h0
    clear h0
    go_enter Tryz.func51, Tryz.ntmps51
    go_wp2_with fail
    refine (hs.out _).mono ?_
    rintro e w1 ⟨v, rfl, hown, hB⟩
    have HB := hid (hB0.out.trans (hB.mono hB0.out.size))
    have HBL := hid (hb0.out.below hB)
    simp only [Scn.at', Scn.no]
    clear hB hown hB0 hb0
    have hlt := HBL.out.lt
    have f0 := HBL.out.frozen 0
    have f1 := HBL.out.frozen 1
    have f2 := HBL.out.frozen 2
    have f3 := HBL.out.frozen 3
    have c0 := HBL.out.cell 0
    have c1 := HBL.out.cell 1
    have c2 := HBL.out.cell 2
    have c3 := HBL.out.cell 3
    simp only [List.getElem?_toArray, List.getElem?_cons_zero, List.getElem?_cons_succ] at c0 c1 c2 c3
    go_wp2_with fail
    have HN := hid (Blk.new (((((w1.setCell ⟨w.heap.size, 0, none⟩ (.slice (some ⟨w1.heap.size, 0, none⟩) 1 1)).setCell ⟨w.heap.size, 1, none⟩ (.int .i64 0)).setCell ⟨w.heap.size, 2, none⟩ (.int .i64 x2)).setCell ⟨w.heap.size, 3, none⟩ (.int .i64 x1))) #[.int .i64 3, .string { data := #[] }, .int .i64 0] 134)
    have HR := hid (((((HBL.out.set 0 (.slice (some ⟨w1.heap.size, 0, none⟩) 1 1)).set 1 (.int .i64 0)).set 2 (.int .i64 x2)).set 3 (.int .i64 x1)).alloc (.cells #[.int .i64 3, .string { data := #[] }, .int .i64 0] 134))
    have HBx := hid ((((((HB.out.setCell (p := ⟨w.heap.size, 0, none⟩) (Nat.le_refl _) (.slice (some ⟨w1.heap.size, 0, none⟩) 1 1)).setCell (p := ⟨w.heap.size, 1, none⟩) (Nat.le_refl _) (.int .i64 0)).setCell (p := ⟨w.heap.size, 2, none⟩) (Nat.le_refl _) (.int .i64 x2)).setCell (p := ⟨w.heap.size, 3, none⟩) (Nat.le_refl _) (.int .i64 x1)).alloc (by have := HB.out.size; simpa using this) (.cells #[.int .i64 3, .string { data := #[] }, .int .i64 0] 134)))
    simp only [World.size_setCell] at HN
    refine bodyPost_ret (results_cell1' rfl rfl (load_reader HR.out)) rfl ⟨_, rfl, ?_, HBx.out⟩
    refine ⟨_, _, rfl, Nat.le_refl _, by show (1 : Nat) ≤ _; omega, by show (1 : Nat) * 32 ≤ _; omega, .inr ⟨w1.heap.size, 0, rfl, HN.out.lt, fun i hi => ?_⟩⟩
    rw [Nat.zero_add, HN.out.cell i, List.getElem?_toArray]
    rfl
  | inr l =>
    rw [hz] at hs
    have hok := scanR_ok hz
    clear hz
    go_enter Tryz.func51, Tryz.ntmps51
    go_wp2_with fail
    refine (hs.out _).mono ?_
    rintro e w1 ⟨v, rfl, hown, hB⟩
    have HT := hid (owns_toks hown (by have := hok.2.1; simp only [Scn.toks]; omega))
    have HBV := hid (fun k (hk : v.ownBlock = some k) => (hown.lt k hk).1)
    have HB := hid (hB0.out.trans (hB.mono hB0.out.size))
    have HBL := hid (hb0.out.below hB)
    obtain ⟨a, c, rfl, _⟩ := HT.out
    simp only [Scn.at', Scn.no]
    have hsz : (w.alloc (.cells #[.slice none 0 0, .int .i64 0, .int .i64 0, .int .i64 0] 107)).heap.size = w.heap.size + 1 := by simp
    rw [hsz] at HBV
    clear hB hown hB0 hb0 hok hsz
    have hlt := HBL.out.lt
    have f0 := HBL.out.frozen 0
    have f1 := HBL.out.frozen 1
    have f2 := HBL.out.frozen 2
    have f3 := HBL.out.frozen 3
    have c0 := HBL.out.cell 0
    have c1 := HBL.out.cell 1
    have c2 := HBL.out.cell 2
    have c3 := HBL.out.cell 3
    simp only [List.getElem?_toArray, List.getElem?_cons_zero, List.getElem?_cons_succ] at c0 c1 c2 c3
    go_wp2_with fail
    have HR := hid ((((HBL.out.set 0 (.slice a (Scn.toks (.inr l)).length c)).set 1 (.int .i64 0)).set 2 (.int .i64 0)).set 3 (.int .i64 0))
    refine bodyPost_ret (results_cell1' rfl rfl (load_reader HR.out)) rfl ⟨_, rfl, ?_, ?_⟩
    · have hne : ∀ x, a = some x → x.block ≠ w.heap.size := fun x hx => by
        subst hx
        have := HBV.out x.block rfl
        omega
      exact (((HT.out.grown (grown_set _ _ _ _) hne).grown (grown_set _ _ _ _) hne).grown (grown_set _ _ _ _) hne).grown (grown_set _ _ _ _) hne
    · exact (((HB.out.setCell (p := ⟨w.heap.size, 0, none⟩) (Nat.le_refl _) _).setCell (p := ⟨w.heap.size, 1, none⟩) (Nat.le_refl _) _).setCell (p := ⟨w.heap.size, 2, none⟩) (Nat.le_refl _) _).setCell (p := ⟨w.heap.size, 3, none⟩) (Nat.le_refl _) _
/-- The reader that the opened text is laid in. -/
theorem Rk.new {w : World} {lv : Value} {s : Rs} (hs : TsOk s.ts) (ht : ToksR w lv s.ts) : ∃ tb, lv.ownBlock = some tb ∧ tb < w.heap.size ∧ Rk (w.alloc (.cells #[lv, .int .i64 0, .int .i64 s.e, .int .i64 s.pl] 107)) w.heap.size tb s.ts s := by
  obtain ⟨tb, off, cap, rfl, hlt⟩ := ht.head hs.1
  exact ⟨tb, rfl, hlt, hs, hs, off, cap, 0, by simp, Blk.new _ _ _, by omega, ht.below ((Below.refl _ _).alloc (Nat.le_refl _) _)⟩

set_option maxRecDepth 100000 in
set_option maxHeartbeats 1000000 in
theorem q_head (w : World) (b tb : Nat) (L : List Tok) (s : Rs) (h : Rk w b tb L s) (word : List UInt8) :
    Calls Tryz.prog 52 #[.pointer (some ⟨b, 0, none⟩), .string (str word)] w fun e w' => e = .returned (.int .i64 (s.head word).1) ∧ Rk w' b tb L (s.head word).2 ∧ w.grownBy w' (some b) := by
  have hn := hid (q_need w b tb L s h word)
  unfold Rs.head
  generalize s.need word = s1 at *
  have hq := hid (fun w h => q_number w b tb L s1 h 1 12)
  generalize s1.num 1 12 = p at *
  obtain ⟨n, s2⟩ := p
  dsimp only at hq ⊢
  have hc := hid (fun w h => q_need w b tb L s2 h [58])
  generalize s2.need [58] = s3 at *
  clear h
  go_enter Tryz.func52, Tryz.ntmps52
  go_wp2_with fail
  refine hn.out.mono ?_
  rintro e w1 ⟨rfl, h1, g1⟩
  have H1 := hid h1
  have G1 := hid g1
  clear h1 g1
  dsimp only
  go_wp2_with fail
  refine (hq.out w1 H1.out).mono ?_
  rintro e w2 ⟨rfl, h2, g2⟩
  have H2 := hid h2
  have G2 := hid (grown_trans G1.out g2)
  clear h2 g2
  dsimp only
  go_wp2_with fail
  refine (hc.out w2 H2.out).mono ?_
  rintro e w3 ⟨rfl, h3, g3⟩
  dsimp only
  go_wp2_with fail
  go_ret
  exact ⟨rfl, h3, grown_trans G2.out g3⟩

structure LkI (w0 w : World) (b tb X R : Nat) (L : List Tok) (s : Rs) (xc : Array Value) : Prop where
  tk : Rk w b tb L s
  bx : Blk w X xc 173
  br : Blk w R #[.int .i64 0, .int .i64 0, .int .i64 0, .int .i64 0] 173
  g : w0.grownBy w (some b)
  nx : X ≠ b
  nr : R ≠ b
  ne : X ≠ R
  nt : tb ≠ X
  ntr : tb ≠ R
  h0 : w0.heap.size ≤ X
  h0r : w0.heap.size ≤ R
section
variable {w0 w w' : World} {b tb X R : Nat} {L : List Tok} {s s' : Rs} {xc : Array Value}
theorem LkI.step (h : LkI w0 w b tb X R L s xc) (ht : Rk w' b tb L s') (hg : w.grownBy w' (some b)) : LkI w0 w' b tb X R L s' xc :=
  ⟨ht, h.bx.grown hg (fun e => h.nx (Option.some.inj e).symm), h.br.grown hg (fun e => h.nr (Option.some.inj e).symm), grown_trans h.g hg, h.nx, h.nr, h.ne, h.nt, h.ntr, h.h0, h.h0r⟩
theorem LkI.below (h : LkI w0 w b tb X R L s xc) (hB : Below w.heap.size w w') : LkI w0 w' b tb X R L s xc := h.step (h.tk.below hB) (grown_of hB _)
theorem Rk.setO (h : Rk w b tb L s) {g : Nat} (h1 : b ≠ g) (h2 : tb ≠ g) (k : Nat) (v : Value) : Rk (w.setCell ⟨g, k, none⟩ v) b tb L s :=
  h.grownR (grown_set _ _ _ _) (fun e => h1 (Option.some.inj e).symm) (fun e => h2 (Option.some.inj e).symm)
theorem LkI.setX (h : LkI w0 w b tb X R L s xc) (k : Nat) (v : Value) : LkI w0 (w.setCell ⟨X, k, none⟩ v) b tb X R L s (xc.setIfInBounds k v) :=
  ⟨h.tk.setO (Ne.symm h.nx) h.nt k v, h.bx.set k v, h.br.other (Ne.symm h.ne) k v, grown_setN _ _ _ _ h.h0 _ h.g, h.nx, h.nr, h.ne, h.nt, h.ntr, h.h0, h.h0r⟩
end
theorem load_Line {w : World} {b : Nat} {v0 v1 v2 v3 : Value} (h : Blk w b #[v0, v1, v2, v3] 173) : (loadVar 173 ⟨b, 0, none⟩).run Tryz.prog w = .ok (.agg #[v0, v1, v2, v3]) w := by
  have hlt := h.lt
  have c0 := h.cell 0
  have c1 := h.cell 1
  have c2 := h.cell 2
  have c3 := h.cell 3
  simp only [List.getElem?_toArray, List.getElem?_cons_zero, List.getElem?_cons_succ] at c0 c1 c2 c3
  go_simp
def LnV (x : Ln) : Value := .agg #[.int .i64 x.a, .int .i64 x.b, .int .i64 x.m, .int .i64 x.pl]

set_option maxRecDepth 100000 in
set_option maxHeartbeats 4000000 in
theorem q_line (w : World) (b tb : Nat) (L : List Tok) (s : Rs) (h : Rk w b tb L s) (n : Int) (sign : UInt8) (hn : -1000 ≤ n ∧ n ≤ 1000) :
    Calls Tryz.prog 107 #[.pointer (some ⟨b, 0, none⟩), .int .i64 n, .string (str [sign])] w fun e w' => e = .returned (LnV (s.line sign n).1) ∧ Rk w' b tb L (s.line sign n).2 ∧ w.grownBy w' (some b) := by
  obtain ⟨z, hz⟩ : ∃ z, z = s.line sign n := ⟨_, rfl⟩
  rw [← hz]
  unfold Rs.line at hz
  have HZ := hid hz
  clear hz
  have HR := hid (Blk.new w #[.int .i64 0, .int .i64 0, .int .i64 0, .int .i64 0] 173)
  have hB0 := (Below.refl w.heap.size w).alloc (Nat.le_refl _) (.cells #[.int .i64 0, .int .i64 0, .int .i64 0, .int .i64 0] 173)
  have HT := hid (h.below hB0)
  have HB0 := hid hB0
  have hbl := hid h.lt
  have htl : Hid (tb < w.heap.size) := by obtain ⟨_, _, _, h1, _⟩ := h.cells; exact h1
  have wn : IntKind.i64.wrap (n - 1) = n - 1 := IntWalk.i64_in _ (by omega)
  have q2 := tok_pos
  clear h hB0
  go_enter Tryz.func107, Tryz.ntmps107
  go_upto_region 1 with fail
  generalize w.alloc (.cells #[.int .i64 0, .int .i64 0, .int .i64 0, .int .i64 0] 173) = W0 at *
  go_wp2_with fail
  refine (q_now W0 b tb L s HT.out).mono ?_
  rintro e w1 ⟨rfl, hB1⟩
  have HI0 : Hid (LkI w (w1.alloc (.cells #[.int .i64 0, .int .i64 0, .int .i64 0, .int .i64 s.now.pos] 173)) b tb w1.heap.size w.heap.size L s #[.int .i64 0, .int .i64 0, .int .i64 0, .int .i64 s.now.pos]) := by
    have hB2 := up hB1 ((Below.refl w1.heap.size w1).alloc (Nat.le_refl _) (.cells #[.int .i64 0, .int .i64 0, .int .i64 0, .int .i64 s.now.pos] 173))
    have hs1 := hB1.size
    have hs2 := HR.out.lt
    have a1 := hbl.out
    have a2 := htl.out
    exact ⟨HT.out.below hB2, Blk.new _ _ _, HR.out.below hB2, grown_trans (grown_of HB0.out _) (grown_of hB2 _), by omega, by omega, by omega, by omega, by omega, by omega, Nat.le_refl _⟩
  clear hB1 HT HB0 HR
  dsimp only
  go_upto_region 2 with fail
  generalize w1.alloc (.cells #[.int .i64 0, .int .i64 0, .int .i64 0, .int .i64 s.now.pos] 173) = W1 at *
  generalize w1.heap.size = X at *
  go_wp2_with fail
  refine (q_number W1 b tb L s HI0.out.tk 0 (n - 1)).mono ?_
  rintro e w2 ⟨rfl, h2, g2⟩
  have HI1 := hid (HI0.out.step h2 g2)
  clear h2 g2 HI0
  generalize s.num 0 (n - 1) = p1 at *
  obtain ⟨y1, s1⟩ := p1
  have HI1 : Hid (LkI w w2 b tb X w.heap.size L s1 #[.int .i64 0, .int .i64 0, .int .i64 0, .int .i64 s.now.pos]) := HI1
  have x0 := HI1.out.bx.cell 0
  simp only [List.getElem?_toArray, List.getElem?_cons_zero, List.getElem?_cons_succ] at x0
  have f0 := HI1.out.bx.frozen 0
  have xl := HI1.out.bx.lt
  dsimp only
  go_wp2_with fail
  have HI2 := hid (HI1.out.setX 0 (.int .i64 y1))
  generalize w2.setCell ⟨X, 0, none⟩ (.int .i64 y1) = W2 at *
  clear x0 f0 xl HI1
  refine (q_need W2 b tb L s1 HI2.out.tk [sign]).mono ?_
  rintro e w3 ⟨rfl, h3, g3⟩
  have HI3 := hid (HI2.out.step h3 g3)
  clear h3 g3 HI2
  have HZ : Hid (z = (⟨y1, ((s1.need [sign]).num 0 (n - 1)).1, ((s1.need [sign]).num 0 (n - 1)).2.mul.1, s.now.pos⟩, ((s1.need [sign]).num 0 (n - 1)).2.mul.2)) := HZ
  generalize s1.need [sign] = s2 at *
  dsimp only
  go_wp2_with fail
  refine (q_number w3 b tb L s2 HI3.out.tk 0 (n - 1)).mono ?_
  rintro e w4 ⟨rfl, h4, g4⟩
  have HI4 := hid (HI3.out.step h4 g4)
  clear h4 g4 HI3
  generalize s2.num 0 (n - 1) = p2 at *
  obtain ⟨y2, s3⟩ := p2
  have HI4 : Hid (LkI w w4 b tb X w.heap.size L s3 #[.int .i64 y1, .int .i64 0, .int .i64 0, .int .i64 s.now.pos]) := HI4
  have x1 := HI4.out.bx.cell 1
  simp only [List.getElem?_toArray, List.getElem?_cons_zero, List.getElem?_cons_succ] at x1
  have f1 := HI4.out.bx.frozen 1
  have xl := HI4.out.bx.lt
  dsimp only
  go_wp2_with fail
  have HI5 := hid (HI4.out.setX 1 (.int .i64 y2))
  generalize w4.setCell ⟨X, 1, none⟩ (.int .i64 y2) = W4 at *
  clear x1 f1 xl HI4
  refine (q_mult W4 b tb L s3 HI5.out.tk).mono ?_
  rintro e w5 ⟨rfl, h5, g5⟩
  have HI6 := hid (HI5.out.step h5 g5)
  clear h5 g5 HI5
  have HZ : Hid (z = (⟨y1, y2, s3.mul.1, s.now.pos⟩, s3.mul.2)) := HZ
  generalize s3.mul = p3 at *
  obtain ⟨y3, s4⟩ := p3
  have HI6 : Hid (LkI w w5 b tb X w.heap.size L s4 #[.int .i64 y1, .int .i64 y2, .int .i64 0, .int .i64 s.now.pos]) := HI6
  have x2 := HI6.out.bx.cell 2
  simp only [List.getElem?_toArray, List.getElem?_cons_zero, List.getElem?_cons_succ] at x2
  have f2 := HI6.out.bx.frozen 2
  have xl := HI6.out.bx.lt
  dsimp only
  go_upto_region 6 with fail
  have HI7 := hid (HI6.out.setX 2 (.int .i64 y3))
  generalize w5.setCell ⟨X, 2, none⟩ (.int .i64 y3) = W5 at *
  clear x2 f2 xl HI6
  have HI7 : Hid (LkI w W5 b tb X w.heap.size L s4 #[.int .i64 y1, .int .i64 y2, .int .i64 y3, .int .i64 s.now.pos]) := HI7
  have x0 := HI7.out.bx.cell 0
  have x1 := HI7.out.bx.cell 1
  have x2 := HI7.out.bx.cell 2
  have x3 := HI7.out.bx.cell 3
  have r0 := HI7.out.br.cell 0
  have r1 := HI7.out.br.cell 1
  have r2 := HI7.out.br.cell 2
  have r3 := HI7.out.br.cell 3
  simp only [List.getElem?_toArray, List.getElem?_cons_zero, List.getElem?_cons_succ] at x0 x1 x2 x3 r0 r1 r2 r3
  have xl := HI7.out.bx.lt
  have rl := HI7.out.br.lt
  have f0 := HI7.out.br.frozen 0
  have f1 := HI7.out.br.frozen 1
  have f2 := HI7.out.br.frozen 2
  have f3 := HI7.out.br.frozen 3
  go_wp2_with fail
  have hbr := ((((HI7.out.br.set 0 (.int .i64 y1)).set 1 (.int .i64 y2)).set 2 (.int .i64 y3)).set 3 (.int .i64 s.now.pos))
  refine bodyPost_ret (results_cell1' rfl rfl (load_Line hbr)) rfl ?_
  rw [HZ.out]
  have hn1 := Ne.symm HI7.out.nr
  have hn2 := HI7.out.ntr
  exact ⟨rfl, (((HI7.out.tk.setO hn1 hn2 0 _).setO hn1 hn2 1 _).setO hn1 hn2 2 _).setO hn1 hn2 3 _, grown_setN _ _ _ _ (Nat.le_refl _) _ (grown_setN _ _ _ _ (Nat.le_refl _) _ (grown_setN _ _ _ _ (Nat.le_refl _) _ (grown_setN _ _ _ _ (Nat.le_refl _) _ HI7.out.g)))⟩

end Go.Proofs.YtemmepgfngkgmaaGreatDoor
