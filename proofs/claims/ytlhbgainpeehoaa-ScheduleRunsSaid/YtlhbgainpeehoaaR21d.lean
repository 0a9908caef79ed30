/-
  Contract of the reference for schedules: Went.
-/
import Derived.Test.YtlhbgainpeehoaaR21f
namespace Go.Proofs.Ytlhbgainpeehoaa
open Go.RowKit

/-- A course is handed back. -/
def RetCourse (T0 : TypeId) (w : World) (N : Nat) (s : St) (tr : List Int) (e : Ending) (w' : World) : Prop :=
  Below w.heap.size w w' ∧ ∃ b1 c1 b2 c2 v3, e = .returned (.agg #[.slice (some ⟨b1, 0, none⟩) N c1, .slice (some ⟨b2, 0, none⟩) N c2, v3]) ∧
      w'.ownsRow w.heap.size T0 1 (.slice (some ⟨b1, 0, none⟩) N c1) N ((vecOf N s.L).map (Value.int .i64)) ∧
      w'.ownsRow w.heap.size T0 1 (.slice (some ⟨b2, 0, none⟩) N c2) N ((vecOf N s.T).map (Value.int .i64)) ∧
      w'.ownsRow w.heap.size T0 1 v3 tr.length (tr.map (Value.int .i64))

theorem load_course {w : World} {b : Nat} {v0 v1 v2 : Value} (h : Blk w b #[v0, v1, v2] 87) : (loadVar 87 ⟨b, 0, none⟩).run Try.prog w = .ok (.agg #[v0, v1, v2]) w := by
  have hlt := h.lt
  have c0 := h.cell 0
  have c1 := h.cell 1
  have c2 := h.cell 2
  simp only [List.getElem?_toArray, List.getElem?_cons_zero, List.getElem?_cons_succ] at c0 c1 c2
  go_simp
theorem blkSet3 {w : World} {t : TypeId} {b : Nat} {u0 u1 u2 v0 v1 v2 : Value} (h : Blk w b #[u0, u1, u2] t) :
    Blk (((w.setCell ⟨b, 0, none⟩ v0).setCell ⟨b, 1, none⟩ v1).setCell ⟨b, 2, none⟩ v2) b #[v0, v1, v2] t := (((h.set 0 v0).set 1 v1).set 2 v2)
theorem ownSet3 {w : World} {b base g n cap : Nat} {e : TypeId} {xs : List Value} {v0 v1 v2 : Value} (h : w.ownsRow base e 1 (.slice (some ⟨g, 0, none⟩) n cap) n xs) (hne : g ≠ b) :
    (((w.setCell ⟨b, 0, none⟩ v0).setCell ⟨b, 1, none⟩ v1).setCell ⟨b, 2, none⟩ v2).ownsRow base e 1 (.slice (some ⟨g, 0, none⟩) n cap) n xs :=
  owns_other (owns_other (owns_other h hne 0 v0) hne 1 v1) hne 2 v2

/-- The course of the reference, in memory. -/
structure Co (T0 : TypeId) (base : Nat) (w : World) (bx bl cl bt N : Nat) (tv : Value) (tr : List Int) (L T : Nat → Int) : Prop where
  blk : Blk w bx #[.slice (some ⟨bl, 0, none⟩) N cl, .slice (some ⟨bt, 0, none⟩) N N, tv] 87
  left : w.ownsRow base T0 1 (.slice (some ⟨bl, 0, none⟩) N cl) N ((vecOf N L).map (Value.int .i64))
  times : w.ownsRow base T0 1 (.slice (some ⟨bt, 0, none⟩) N N) N ((vecOf N T).map (Value.int .i64))
  tra : w.ownsRow base T0 1 tv tr.length (tr.map (Value.int .i64))
  hb : base ≤ bx
  n1 : bl ≠ bt
  n2 : bl ≠ bx
  n3 : bt ≠ bx
  sep : ∀ k, tv.ownBlock = some k → k ≠ bl ∧ k ≠ bt ∧ k ≠ bx
section
variable {T0 : TypeId} {base : Nat} {w w' : World} {bx bl cl bt N : Nat} {tv : Value} {tr : List Int} {L T : Nat → Int}
theorem Co.mono (h : Co T0 base w bx bl cl bt N tv tr L T) (hB : Below w.heap.size w w') : Co T0 base w' bx bl cl bt N tv tr L T :=
  ⟨h.blk.below hB, owns_below h.left hB, owns_below h.times hB, owns_below h.tra hB, h.hb, h.n1, h.n2, h.n3, h.sep⟩
theorem Co.drew (h : Co T0 base w bx bl cl bt N tv tr L T) : Co T0 base w.drew bx bl cl bt N tv tr L T := h.mono (Below.drew (Below.refl _ _))
theorem Co.setL (h : Co T0 base w bx bl cl bt N tv tr L T) (u : Nat) (x : Int) : Co T0 base (w.setCell ⟨bl, u, none⟩ (.int .i64 x)) bx bl cl bt N tv tr (fun i => if i = u then x else L i) T := by
  refine ⟨h.blk.other (Ne.symm h.n2) u _, ?_, owns_other h.times (Ne.symm h.n1) u _, h.tra.kept (grown_set w bl u _) (by cases hv : tv.ownBlock with | none => exact .inl rfl | some k => exact .inr (fun e => (h.sep k hv).1 (Option.some.inj e))), h.hb, h.n1, h.n2, h.n3, h.sep⟩
  have := owns_set h.left u x
  rwa [vecOf_set] at this
theorem Co.setT (h : Co T0 base w bx bl cl bt N tv tr L T) (u : Nat) (x : Int) : Co T0 base (w.setCell ⟨bt, u, none⟩ (.int .i64 x)) bx bl cl bt N tv tr L (fun i => if i = u then x else T i) := by
  refine ⟨h.blk.other (Ne.symm h.n3) u _, owns_other h.left h.n1 u _, ?_, h.tra.kept (grown_set w bt u _) (by cases hv : tv.ownBlock with | none => exact .inl rfl | some k => exact .inr (fun e => (h.sep k hv).2.1 (Option.some.inj e))), h.hb, h.n1, h.n2, h.n3, h.sep⟩
  have := owns_set h.times u x
  rwa [vecOf_set] at this
/-- Behind the trace's append: the new trace is laid. -/
theorem Co.push (h : Co T0 base w bx bl cl bt N tv tr L T) {bn cn n : Nat} {tr' : List Int} (hn : n = tr'.length) (ho : w'.ownsRow base T0 1 (.slice (some ⟨bn, 0, none⟩) n cn) tr'.length (tr'.map (Value.int .i64)))
    (hg : w.grownBy w' tv.ownBlock) (hat : tv.ownBlock = some bn ∨ w.heap.size ≤ bn) :
    Co T0 base (w'.setCell ⟨bx, 2, none⟩ (.slice (some ⟨bn, 0, none⟩) n cn)) bx bl cl bt N (.slice (some ⟨bn, 0, none⟩) n cn) tr' L T := by
  subst hn
  have l1 := (owns_lt h.left).2
  have l2 := (owns_lt h.times).2
  have l3 := h.blk.lt
  have hs : bn ≠ bl ∧ bn ≠ bt ∧ bn ≠ bx := by
    rcases hat with e | e
    · exact h.sep bn e
    · omega
  have hx : tv.ownBlock ≠ some bx := fun e => (h.sep bx e).2.2 rfl
  have hl : tv.ownBlock ≠ some bl := fun e => (h.sep bl e).1 rfl
  have ht : tv.ownBlock ≠ some bt := fun e => (h.sep bt e).2.1 rfl
  exact ⟨(h.blk.grown hg hx).set 2 _, owns_other (h.left.kept hg (.inr (fun e => hl e.symm))) h.n2 _ _, owns_other (h.times.kept hg (.inr (fun e => ht e.symm))) h.n3 _ _, owns_other ho hs.2.2 _ _, h.hb, h.n1, h.n2, h.n3, fun k hk => by obtain rfl : bn = k := Option.some.inj hk; exact hs⟩
theorem Co.pushB (h : Co T0 base w bx bl cl bt N tv tr L T) {W1 : World} (hB : Below base W1 w) (hb : base ≤ w.heap.size) (hg : w.grownBy w' tv.ownBlock) (u : Value) : Below base W1 (w'.setCell ⟨bx, 2, none⟩ u) :=
  (hB.grown hg hb fun k hk => (h.tra.lt k hk).1).setCell (by exact h.hb) _
/-- Another divisor is laid. -/
theorem Co.newL (h : Co T0 base w bx bl cl bt N tv tr L T) (hB : Below w.heap.size w w') {bn cn : Nat} {L' : Nat → Int} (ho : w'.ownsRow w.heap.size T0 1 (.slice (some ⟨bn, 0, none⟩) N cn) N ((vecOf N L').map (Value.int .i64))) (hb : base ≤ w.heap.size) :
    Co T0 base (w'.setCell ⟨bx, 0, none⟩ (.slice (some ⟨bn, 0, none⟩) N cn)) bx bn cn bt N tv tr L' T := by
  have l1 := (owns_lt ho).1
  have l2 := (owns_lt h.times).2
  have l3 := h.blk.lt
  refine ⟨(h.blk.below hB).set 0 _, owns_other (owns_base ho hb) (by omega) _ _, owns_other (owns_below h.times hB) h.n3 _ _, (owns_below h.tra hB).kept (grown_set w' bx 0 _) ?_, h.hb, by omega, by omega, h.n3, fun k hk => ?_⟩
  · cases hv : tv.ownBlock with
    | none => exact .inl rfl
    | some k => exact .inr (fun e => (h.sep k hv).2.2 (Option.some.inj e))
  · have := (h.tra.lt k hk).2
    have := h.sep k hk
    omega
theorem Co.congr {L' T' : Nat → Int} (h : Co T0 base w bx bl cl bt N tv tr L T) (hL : ∀ u, u < N → L u = L' u) (hT : ∀ u, u < N → T u = T' u) : Co T0 base w bx bl cl bt N tv tr L' T' := by
  refine ⟨h.blk, ?_, ?_, h.tra, h.hb, h.n1, h.n2, h.n3, h.sep⟩
  · rw [← vecOf_congr N L L' hL]; exact h.left
  · rw [← vecOf_congr N T T' hT]; exact h.times
end

theorem co_box {wb W : World} {N bx bl bt cl : Nat} {d : Nat → Int} (hO : wb.ownsRow W.heap.size 3 1 (.slice (some ⟨bl, 0, none⟩) N cl) N ((vecOf N d).map (Value.int .i64))) (hK : Blk wb bx #[.slice none 0 0, .slice none 0 0, .slice none 0 0] 87) (hZ : wb.ownsRow W.heap.size 3 1 (.slice (some ⟨bt, 0, none⟩) N N) N ((vecOf N fun _ => 0).map (Value.int .i64))) (h4 : W.heap.size ≤ bx) (h1 : bl ≠ bt) (h2 : bl ≠ bx) (h3 : bt ≠ bx) (hB : Below W.heap.size W wb) :
    ∃ bx' bl' cl' bt', (Value.pointer (some ⟨bx, 0, none⟩)) = .pointer (some ⟨bx', 0, none⟩) ∧ Co 3 W.heap.size (((wb.setCell ⟨bx, 0, none⟩ (.slice (some ⟨bl, 0, none⟩) N cl)).setCell ⟨bx, 1, none⟩ (.slice (some ⟨bt, 0, none⟩) N N)).setCell ⟨bx, 2, none⟩ (.slice none 0 0)) bx' bl' cl' bt' N (.slice none 0 0) [] d (fun _ => 0) ∧ Below W.heap.size W (((wb.setCell ⟨bx, 0, none⟩ (.slice (some ⟨bl, 0, none⟩) N cl)).setCell ⟨bx, 1, none⟩ (.slice (some ⟨bt, 0, none⟩) N N)).setCell ⟨bx, 2, none⟩ (.slice none 0 0)) :=
  ⟨bx, bl, cl, bt, rfl, ⟨blkSet3 hK, ownSet3 hO h2, ownSet3 hZ h3, World.ownsRow_nil _ _ _ _, h4, h1, h2, h3, fun k hk => by cases hk⟩, ((hB.setCell h4 _).setCell h4 _).setCell h4 _⟩
theorem co_box2 {wb W : World} {N bx bl bt cl : Nat} {d : Nat → Int} (hO : wb.ownsRow W.heap.size 3 1 (.slice (some ⟨bl, 0, none⟩) N cl) N ((vecOf N d).map (Value.int .i64))) (hZ : wb.ownsRow W.heap.size 3 1 (.slice (some ⟨bt, 0, none⟩) N N) N ((vecOf N fun _ => 0).map (Value.int .i64))) (hx : bx = wb.heap.size) (h1 : bl ≠ bt) (hB : Below W.heap.size W wb) :
    ∃ bx' bl' cl' bt', (Value.pointer (some ⟨bx, 0, none⟩)) = .pointer (some ⟨bx', 0, none⟩) ∧ Co 3 W.heap.size (wb.alloc (.cells #[.slice (some ⟨bl, 0, none⟩) N cl, .slice (some ⟨bt, 0, none⟩) N N, .slice none 0 0] 87)) bx' bl' cl' bt' N (.slice none 0 0) [] d (fun _ => 0) ∧ Below W.heap.size W (wb.alloc (.cells #[.slice (some ⟨bl, 0, none⟩) N cl, .slice (some ⟨bt, 0, none⟩) N N, .slice none 0 0] 87)) := by
  subst hx
  have l1 := (owns_lt hO).2
  have l2 := (owns_lt hZ).2
  exact ⟨wb.heap.size, bl, cl, bt, rfl, ⟨Blk.new _ _ _, hO.alloc _, hZ.alloc _, World.ownsRow_nil _ _ _ _, hB.size, h1, by omega, by omega, fun k hk => by cases hk⟩, hB.alloc hB.size _⟩
theorem co_box3 {wb W : World} {N bx bl bt cl : Nat} {d : Nat → Int} (hN : N ≤ 1000) (hO : wb.ownsRow W.heap.size 3 1 (.slice (some ⟨bl, 0, none⟩) N cl) N ((vecOf N d).map (Value.int .i64))) (hx : bx = wb.heap.size) (ht : bt = wb.heap.size + 1) (hB : Below W.heap.size W wb) :
    ∃ bx' bl' cl' bt', (Value.pointer (some ⟨bx, 0, none⟩)) = .pointer (some ⟨bx', 0, none⟩) ∧ Co 3 W.heap.size ((wb.alloc (.cells #[.slice (some ⟨bl, 0, none⟩) N cl, .slice (some ⟨bt, 0, none⟩) N N, .slice none 0 0] 87)).alloc (.cells (zer N) 3)) bx' bl' cl' bt' N (.slice none 0 0) [] d (fun _ => 0) ∧ Below W.heap.size W ((wb.alloc (.cells #[.slice (some ⟨bl, 0, none⟩) N cl, .slice (some ⟨bt, 0, none⟩) N N, .slice none 0 0] 87)).alloc (.cells (zer N) 3)) := by
  subst hx ht
  have l1 := (owns_lt hO).2
  have l0 := hB.size
  exact ⟨wb.heap.size, bl, cl, wb.heap.size + 1, rfl, ⟨(Blk.new _ _ _).alloc _, (hO.alloc _).alloc _, ownZ (by simp) (by simp; omega) hN, World.ownsRow_nil _ _ _ _, l0, by omega, by omega, by omega, fun k hk => by cases hk⟩, (hB.alloc l0 _).alloc (by simp; omega) _⟩
theorem co_box4 {wb W : World} {N bx bl bt cl : Nat} {d : Nat → Int} (hN : N ≤ 1000) (hO : wb.ownsRow W.heap.size 3 1 (.slice (some ⟨bl, 0, none⟩) N cl) N ((vecOf N d).map (Value.int .i64))) (hK : Blk wb bx #[.slice none 0 0, .slice none 0 0, .slice none 0 0] 87) (h4 : W.heap.size ≤ bx) (ht : bt = wb.heap.size) (h2 : bl ≠ bx) (hB : Below W.heap.size W wb) :
    ∃ bx' bl' cl' bt', (Value.pointer (some ⟨bx, 0, none⟩)) = .pointer (some ⟨bx', 0, none⟩) ∧ Co 3 W.heap.size ((((wb.setCell ⟨bx, 0, none⟩ (.slice (some ⟨bl, 0, none⟩) N cl)).setCell ⟨bx, 1, none⟩ (.slice (some ⟨bt, 0, none⟩) N N)).setCell ⟨bx, 2, none⟩ (.slice none 0 0)).alloc (.cells (zer N) 3)) bx' bl' cl' bt' N (.slice none 0 0) [] d (fun _ => 0) ∧ Below W.heap.size W ((((wb.setCell ⟨bx, 0, none⟩ (.slice (some ⟨bl, 0, none⟩) N cl)).setCell ⟨bx, 1, none⟩ (.slice (some ⟨bt, 0, none⟩) N N)).setCell ⟨bx, 2, none⟩ (.slice none 0 0)).alloc (.cells (zer N) 3)) := by
  subst ht
  have l1 := (owns_lt hO).2
  have l2 := hK.lt
  have l0 := hB.size
  exact ⟨bx, bl, cl, wb.heap.size, rfl, ⟨(blkSet3 hK).alloc _, (ownSet3 hO h2).alloc _, ownZ (by simp) (by simp; omega) hN, World.ownsRow_nil _ _ _ _, h4, by omega, h2, by omega, fun k hk => by cases hk⟩, (((hB.setCell h4 _).setCell h4 _).setCell h4 _).alloc (by simp; omega) _⟩
theorem ret_course {B : Nat} {w W : World} {bx bl cl bt N : Nat} {tv : Value} {tr : List Int} {L T : Nat → Int} (hF : Co 3 B W bx bl cl bt N tv tr L T) (hB : Below w.heap.size w W) (hs : w.heap.size + 2 ≤ B) (v0 v1 v2 : Value) :
    Below w.heap.size w (((W.setCell ⟨w.heap.size + 1, 0, none⟩ v0).setCell ⟨w.heap.size + 1, 1, none⟩ v1).setCell ⟨w.heap.size + 1, 2, none⟩ v2) ∧
    (((W.setCell ⟨w.heap.size + 1, 0, none⟩ v0).setCell ⟨w.heap.size + 1, 1, none⟩ v1).setCell ⟨w.heap.size + 1, 2, none⟩ v2).ownsRow w.heap.size 3 1 (.slice (some ⟨bl, 0, none⟩) N cl) N ((vecOf N L).map (Value.int .i64)) ∧
    (((W.setCell ⟨w.heap.size + 1, 0, none⟩ v0).setCell ⟨w.heap.size + 1, 1, none⟩ v1).setCell ⟨w.heap.size + 1, 2, none⟩ v2).ownsRow w.heap.size 3 1 (.slice (some ⟨bt, 0, none⟩) N N) N ((vecOf N T).map (Value.int .i64)) ∧
    (((W.setCell ⟨w.heap.size + 1, 0, none⟩ v0).setCell ⟨w.heap.size + 1, 1, none⟩ v1).setCell ⟨w.heap.size + 1, 2, none⟩ v2).ownsRow w.heap.size 3 1 tv tr.length (tr.map (Value.int .i64)) := by
  have l1 := owns_lt hF.left
  have l2 := owns_lt hF.times
  have hk : ∀ k, tv.ownBlock = some k → k ≠ w.heap.size + 1 := fun k hk => by have := (hF.tra.lt k hk).1; omega
  have ht : tv.ownBlock = none ∨ tv.ownBlock ≠ some (w.heap.size + 1) := by
    cases hv : tv.ownBlock with
    | none => exact .inl rfl
    | some k => exact .inr (fun e => hk k hv (Option.some.inj e))
  refine ⟨((hB.setCell ?_ _).setCell ?_ _).setCell ?_ _, ownSet3 (owns_base hF.left (by omega)) (by omega), ownSet3 (owns_base hF.times (by omega)) (by omega), (((owns_base hF.tra (by omega)).kept (grown_set _ _ 0 _) ht).kept (grown_set _ _ 1 _) ht).kept (grown_set _ _ 2 _) ht⟩ <;> (dsimp only; omega)

theorem r18_fire (g : G) (gv : Value) (N : Nat) (hN1 : (N : Int) ≤ g.n) (hN2 : g.n ≤ (N : Int)) (L : Nat → Int) (dv sv : Value) (w : World) (hg : GrR w gv g) (hk : Gok g)
    (hd : IntsR w dv (vecOf N L)) (X : Nat) (hX : X < N) (hs : IntsR w sv (vecOf N (oneAt X 1))) (hL : ∀ u, u < N → -1000000000000 ≤ L u ∧ L u ≤ 1000000000000) :
    Calls Try.prog 80 #[gv, dv, sv] w fun e w' => ∃ b cap, e = .returned (.slice (some ⟨b, 0, none⟩) N cap) ∧
      w'.ownsRow w.heap.size 3 1 (.slice (some ⟨b, 0, none⟩) N cap) N ((vecOf N (fireL g X L)).map (Value.int .i64)) ∧ Below w.heap.size w w' := by
  have hn := hk.n
  have e1 : vecOf N L = vecOf N (fun u => if u < N then L u else 0) := vecOf_congr _ _ _ fun u hu => by simp [hu]
  rw [e1] at hd
  refine (r18_Moved' g gv N hN1 hN2 (fun u => if u < N then L u else 0) (oneAt X 1) dv sv w hg hk hd hs (fun u => ?_) (fun u => ?_)).mono ?_
  · dsimp only
    by_cases h : u < N
    · rw [if_pos h]; exact hL u h
    · rw [if_neg h]; omega
  · unfold oneAt
    split <;> omega
  · rintro e w' ⟨b, cap, rfl, ho, hB⟩
    have e2 : vecOf N (movedV g (fun u => if u < N then L u else 0) (oneAt X 1)) = vecOf N (fireL g X L) := vecOf_congr _ _ _ fun u hu => by
      rw [moved_fire g _ X u (by omega) (by omega)]
      unfold fireL
      simp only [hu, if_true]
    rw [e2] at ho
    exact ⟨b, cap, rfl, ho, hB⟩

set_option maxRecDepth 100000 in
set_option maxHeartbeats 40000000 in
theorem r21_Went (g : G) (gv : Value) (N : Nat) (hN1 : (N : Int) ≤ g.n) (hN2 : g.n ≤ (N : Int)) (q : Int) (d : Nat → Int) (dv : Value) (l : List (Int × Int)) (lv : Value) (w : World)
    (hg : GrR w gv g) (hk : Gok g) (hd : IntsR w dv (vecOf N d)) (hl : PairsR w lv l) (hle : evsErr g l = 0) (hdb : ∀ u, u < N → -1048576 ≤ d u ∧ d u ≤ 1048576) :
    Calls Try.prog 48 #[gv, .int .i64 q, dv, lv] w (RetCourse 3 w N (evTo g q N l ⟨d, fun _ => 0⟩ l.length).1 (evTo g q N l ⟨d, fun _ => 0⟩ l.length).2) := by
  have hg' := hg
  obtain ⟨ev0, rfl, _⟩ := hg'
  obtain ⟨hn1, hn2⟩ := hk.n
  obtain ⟨hl4, hevk⟩ := evs_ok hle
  obtain ⟨ad, cd, rfl, _, _, _, hcd⟩ := hd
  obtain ⟨al, cl', rfl, _, _, _, hcl⟩ := hl
  have HLD := hid (vecOf_len N d)
  rw [HLD.out]
  obtain ⟨b, off, rfl, hb, _⟩ := hcd.int (by rw [HLD.out]; omega)
  have hok0 : okS N 1048576 0 ⟨d, fun _ => 0⟩ := ⟨fun u hu => by have := hdb u hu; dsimp only; omega, fun u hu => by dsimp only; omega⟩
  have HEV := hid hevk
  have HOK := hid (fun k => evTo_ok hk q N l ⟨d, fun _ => 0⟩ 1048576 hok0 k)
  have HLN := hid (fun k => evTo_len g q N l ⟨d, fun _ => 0⟩ k)
  have HST := hid (fun k => show (evTo g q N l ⟨d, fun _ => 0⟩ (k + 1)) = ((evStp g q N (l[k]?.getD (0, 0)) (evTo g q N l ⟨d, fun _ => 0⟩ k).1).1, (evTo g q N l ⟨d, fun _ => 0⟩ k).2 ++ [(evStp g q N (l[k]?.getD (0, 0)) (evTo g q N l ⟨d, fun _ => 0⟩ k).1).2]) from rfl)
  have HE0 : Hid (evTo g q N l ⟨d, fun _ => 0⟩ 0 = (⟨d, fun _ => 0⟩, [])) := rfl
  clear hevk hok0 hle
  generalize hE : evTo g q N l ⟨d, fun _ => 0⟩ = ev at *
  clear hE
  go_enter Try.func48, Try.ntmps48
  go_upto_region 1 with fail
  obtain ⟨W1, hW1⟩ : ∃ W : World, W = ((w.alloc (.cells #[.int .i64 g.n, ev0] 24)).alloc (.cells #[.slice none 0 0, .slice none 0 0, .slice none 0 0] 87)) := ⟨_, rfl⟩
  rw [← hW1]
  have f1 : W1.cell? ⟨w.heap.size, 0, none⟩ = some (.int .i64 g.n) := by rw [hW1]; simp
  have f2 : W1.cell? ⟨w.heap.size, 1, none⟩ = some ev0 := by rw [hW1]; simp
  have hBw : Below w.heap.size w W1 := by rw [hW1]; go_grown
  have hs0 : W1.heap.size = w.heap.size + 2 := by rw [hW1]; simp
  have hBk : Blk W1 (w.heap.size + 1) #[.slice none 0 0, .slice none 0 0, .slice none 0 0] 87 := by rw [hW1]; have := Blk.new (w.alloc (.cells #[.int .i64 g.n, ev0] 24)) #[.slice none 0 0, .slice none 0 0, .slice none 0 0] 87; simpa using this
  have hga : w.heap.size + 2 ≤ W1.heap.size := by omega
  have HGA := hid hga
  have HR1 := hid hBk
  clear hW1 hs0 hBk
  have hcd1 := hid (hcd.below hBw)
  have hb1 : b < W1.heap.size := by omega
  have hmk := run_zer (P := Try.prog) 33 3 Try.underScript Try.infoInt g.n N hN1 hN2 (by omega)
  obtain ⟨i0, hi, hz0, hz1, hz2⟩ := info_parts Try.infoInt
  go_cut [9] (fun s9 W2 => ∃ bx bl cl bt, s9 = .pointer (some ⟨bx, 0, none⟩) ∧ Co 3 W1.heap.size W2 bx bl cl bt N (.slice none 0 0) [] d (fun _ => 0) ∧ Below W1.heap.size W1 W2)
  case first =>
    have hN1000 : N ≤ 1000 := by omega
    have z1 : W1.heap.size < W1.heap.size + 1 + 1 := by omega
    have z2 : W1.heap.size < W1.heap.size + 1 + 1 + 1 := by omega
    have z3 : W1.heap.size + 1 < W1.heap.size + 1 + 1 + 1 := by omega
    have z4 : W1.heap.size + 1 + 1 < W1.heap.size + 1 + 1 + 1 := by omega
    have y1 : ¬ (W1.heap.size + 1 = W1.heap.size) := by omega
    have y2 : ¬ (W1.heap.size + 1 + 1 = W1.heap.size) := by omega
    have y3 : ¬ (W1.heap.size + 1 + 1 = W1.heap.size + 1) := by omega
    have y4 : ¬ (W1.heap.size = W1.heap.size + 1) := by omega
    have y5 : ¬ (W1.heap.size = W1.heap.size + 1 + 1) := by omega
    have y6 : ¬ (W1.heap.size + 1 = W1.heap.size + 1 + 1) := by omega
    have hRd : Hid (∀ W', Below W1.heap.size W1 W' → W'.cell? ⟨w.heap.size, 0, none⟩ = some (.int .i64 g.n)) := fun W' h => (h.cell (p := ⟨w.heap.size, 0, none⟩) (by have := HGA.out; dsimp only; omega)).trans f1
    have hNw : Hid (∀ W', Below W1.heap.size W1 W' → ∀ (j : Nat) (u : Value), ((vecOf N d).map (Value.int .i64))[j]? = some u → W'.cell? ((⟨b, off, none⟩ : Addr).add j) = some u) := fun W' h j u hj => (hcd1.out.below h).news j u hj
    clear hga
    go_region_held3 (fun w' => w'.cell? ⟨w.heap.size, 0, none⟩ = some (.int .i64 g.n))
      ((refine hRd.out _ ?_; (repeat (first | with_reducible assumption | with_reducible exact Below.refl _ _ | with_reducible refine balloc ?_ _ | with_reducible refine Below.drew ?_ | (with_reducible refine bset ?_ ?_ _; rotate_left; (dsimp only; omega))))))
      ((refine step_append_lies _ (by rfl) (.tmp 13) (.tmp 14) 26 (by rfl) W1.heap.size 3 i0 _ 1 8 Try.underDiv hi hz0 hz1 hz2 rfl (by decide) _ _ _ (by rfl) (owns_empty W1.heap.size (by (simp only [heap_drew]; first | (refine heap_new' _ _ _ ?_; (first | rfl | omega | (simp only [World.size_alloc]; done) | (simp only [World.size_alloc]; omega))) | (refine (heap_old _ _ _ ?_).trans (heap_new' _ _ _ ?_) <;> (first | rfl | omega | (simp only [World.size_alloc]; done) | (simp only [World.size_alloc]; omega))) | (refine (heap_old _ _ _ ?_).trans ((heap_old _ _ _ ?_).trans (heap_new' _ _ _ ?_)) <;> (first | rfl | omega | (simp only [World.size_alloc]; done) | (simp only [World.size_alloc]; omega))))) (by go_size)) ⟨b, off, none⟩ N cd ((vecOf N d).map (Value.int .i64)) (by rfl) (by simp [HLD.out]) (hNw.out _ (by (repeat (first | with_reducible assumption | with_reducible exact Below.refl _ _ | with_reducible refine balloc ?_ _ | with_reducible refine Below.drew ?_)))) (ints_oneCell' _) (by omega) (by unfold maxLen; omega) (by omega) (by go_size) _ rfl ?_; intro bl cl w2 hown hgrow hat hlt; have hX := (by (repeat (first | with_reducible assumption | with_reducible exact Below.refl _ _ | with_reducible refine balloc ?_ _ | with_reducible refine Below.drew ?_)) : Below W1.heap.size W1 _).grown hgrow (by go_size) (fun k hk => by simp [Value.ownBlock] at hk; omega); obtain ⟨r1, r2⟩ := gkcell hgrow; (try simp only [World.size_alloc, World.size_drew] at r1 r2 hat); (have r1 := fun b o h1 (h2 : ¬ (b = _)) => r1 b o h1 h2); (have r2 := fun b o h1 (h2 : ¬ (b = _)) => r2 b o h1 h2); have hXs := hX.size; have hgs := hgrow.size; (try simp only [World.size_alloc, World.size_drew] at hgs); have hlA := fun b h => Nat.lt_of_lt_of_le (n := b) h hgs; have hlB := fun b j h => Nat.lt_of_lt_of_le (n := b) h (Nat.le_trans hgs (Nat.le_add_right _ j))))
    all_goals
      go_wp2_with fail
      go_meet
      simp only [Nat.zero_add, List.nil_append] at hown
      simp only [Value.ownBlock, Option.some.injEq] at hat
      first
        | refine co_box (wb := _) (N := N) ?_ ?_ ?_ ?_ ?_ ?_ ?_ ?_
          · (repeat (first | (with_reducible exact hown) | (with_reducible refine World.ownsRow.alloc ?_ _) | (with_reducible refine World.ownsRow.drew ?_)))
          · (repeat (first | ((with_reducible refine Blk.grown ?_ hgrow ?_); rotate_left; (focus (simp only [Value.ownBlock, ne_eq, Option.some.injEq]; omega))) | ((with_reducible refine blkNew ?_); (first | (with_reducible rfl) | omega | (simp only [World.size_alloc]; done) | (simp only [World.size_alloc]; omega))) | (with_reducible refine Blk.alloc ?_ _) | (with_reducible refine blkDrew ?_)))
          · (repeat (first | ((with_reducible refine World.ownsRow.kept ?_ hgrow (.inr ?_)); rotate_left; (focus (simp only [Value.ownBlock, ne_eq, Option.some.injEq]; omega))) | ((with_reducible refine ownZ ?_ ?_ hN1000) <;> (first | (with_reducible rfl) | omega | (simp only [World.size_alloc]; done) | (simp only [World.size_alloc]; omega))) | (with_reducible refine World.ownsRow.alloc ?_ _) | (with_reducible refine World.ownsRow.drew ?_)))
          · omega
          · omega
          · omega
          · omega
          · (repeat (first | (with_reducible assumption) | (with_reducible exact Below.refl _ _) | (with_reducible refine balloc ?_ _) | (with_reducible refine Below.drew ?_)))
        | refine co_box2 (wb := _) (N := N) ?_ ?_ ?_ ?_ ?_
          · (repeat (first | (with_reducible exact hown) | (with_reducible refine World.ownsRow.alloc ?_ _) | (with_reducible refine World.ownsRow.drew ?_)))
          · (repeat (first | ((with_reducible refine World.ownsRow.kept ?_ hgrow (.inr ?_)); rotate_left; (focus (simp only [Value.ownBlock, ne_eq, Option.some.injEq]; omega))) | ((with_reducible refine ownZ ?_ ?_ hN1000) <;> (first | (with_reducible rfl) | omega | (simp only [World.size_alloc]; done) | (simp only [World.size_alloc]; omega))) | (with_reducible refine World.ownsRow.alloc ?_ _) | (with_reducible refine World.ownsRow.drew ?_)))
          · (first | rfl | omega | (simp only [World.size_alloc]; done) | (simp only [World.size_alloc]; omega))
          · omega
          · (repeat (first | (with_reducible assumption) | (with_reducible exact Below.refl _ _) | (with_reducible refine balloc ?_ _) | (with_reducible refine Below.drew ?_)))
        | refine co_box3 (wb := _) (N := N) hN1000 ?_ ?_ ?_ ?_
          · (repeat (first | (with_reducible exact hown) | (with_reducible refine World.ownsRow.alloc ?_ _) | (with_reducible refine World.ownsRow.drew ?_)))
          · (first | rfl | omega | (simp only [World.size_alloc]; done) | (simp only [World.size_alloc]; omega))
          · (first | rfl | omega | (simp only [World.size_alloc]; done) | (simp only [World.size_alloc]; omega))
          · (repeat (first | (with_reducible assumption) | (with_reducible exact Below.refl _ _) | (with_reducible refine balloc ?_ _) | (with_reducible refine Below.drew ?_)))
        | refine co_box4 (wb := _) (N := N) hN1000 ?_ ?_ ?_ ?_ ?_ ?_
          · (repeat (first | (with_reducible exact hown) | (with_reducible refine World.ownsRow.alloc ?_ _) | (with_reducible refine World.ownsRow.drew ?_)))
          · (repeat (first | ((with_reducible refine Blk.grown ?_ hgrow ?_); rotate_left; (focus (simp only [Value.ownBlock, ne_eq, Option.some.injEq]; omega))) | ((with_reducible refine blkNew ?_); (first | (with_reducible rfl) | omega | (simp only [World.size_alloc]; done) | (simp only [World.size_alloc]; omega))) | (with_reducible refine Blk.alloc ?_ _) | (with_reducible refine blkDrew ?_)))
          · omega
          · (first | rfl | omega | (simp only [World.size_alloc]; done) | (simp only [World.size_alloc]; omega))
          · omega
          · (repeat (first | (with_reducible assumption) | (with_reducible exact Below.refl _ _) | (with_reducible refine balloc ?_ _) | (with_reducible refine Below.drew ?_)))
  case rest =>
    obtain ⟨bx, bl, cl, bt, rfl, hF, hB2⟩ := hcut
    obtain ⟨W2, rfl⟩ : ∃ W : World, W = wc := ⟨_, rfl⟩
    have HF0 := hid hF
    have HB0 := hid hB2
    have HK := hid hk
    have HBW := hid hBw
    have HCL := hid (hcl.below hBw)
    have HG1 := hid (hg.below hBw)
    have HF00 : Hid (Co 3 W1.heap.size W2 bx bl cl bt N (.slice none 0 0) (ev 0).2 (ev 0).1.L (ev 0).1.T) := by rw [HE0.out]; exact HF0.out
    clear hF hB2 hk hmk hcd hcd1 hcl hg hb hBw HF0 HE0
    go_wp2
    go_loopw [10] (fun i wr => ∃ (k bl cl : Nat) (tv : Value), k ≤ l.length ∧ i = .int .i64 k ∧ Hid (Co 3 W1.heap.size wr bx bl cl bt N tv (ev k).2 (ev k).1.L (ev k).1.T) ∧ Hid (Below W1.heap.size W1 wr)) (fun i _ => l.length - (intOf i).toNat)
    case atStart => exact ⟨0, bl, cl, _, Nat.zero_le _, rfl, HF00, HB0⟩
    case round =>
      clear HF00 HB0 bl cl
      obtain ⟨k, bl, cl, tv, hkn, rfl, HC, HB⟩ := hrel
      obtain ⟨W3, rfl⟩ : ∃ W : World, W = wr := ⟨_, rfl⟩
      have HLK := hid (HLN.out k)
      obtain ⟨at', ct, rfl⟩ := owns_slice HC.out.tra
      by_cases hlt : k < l.length
      · have hhx := HEV.out k hlt
        have hst := hid (HST.out k)
        have hbx := hid (HOK.out k)
        obtain ⟨b', off', rfl, hb', hcc⟩ := (HCL.out.below HB.out).pair (by omega)
        obtain ⟨c1, c2⟩ := hcc k hlt
        have hlt' : (k : Int) < (l.length : Int) := by omega
        have hk0 : (0 : Int) ≤ (k : Int) := by omega
        clear hcc
        generalize l[k]?.getD (0, 0) = x at *
        obtain ⟨kd, vl⟩ := x
        dsimp only at c1 c2 hhx hst
        have p0 := HC.out.blk.cell 0
        have p1 := HC.out.blk.cell 1
        simp only [List.getElem?_toArray, List.getElem?_cons_zero, List.getElem?_cons_succ] at p0 p1
        have px := fun j => HC.out.blk.frozen j
        have hbxl := HC.out.blk.lt
        go_upto_if 31 with fail
        go_cut [11] (fun t11 W4 => ∃ (y : Int) (bl cl : Nat), t11 = .int .i64 y ∧ Hid ((ev (k + 1)).2 = (ev k).2 ++ [y]) ∧ Hid (Co 3 W1.heap.size W4 bx bl cl bt N (.slice at' (ev k).2.length ct) (ev k).2 (ev (k + 1)).1.L (ev (k + 1)).1.T) ∧ Hid (Below W1.heap.size W1 W4))
        case first =>
          by_cases hkd : kd = 1
          · have hkb : (kd == 1) = true := by rw [hkd]; rfl
            obtain ⟨V, rfl⟩ := Int.eq_ofNat_of_zero_le hhx.2.1
            have hVN : V < N := by have := hhx.2.2 hkd; omega
            have hres : Hid (ev (k + 1) = (⟨fun u => if u = V then (ev k).1.L V + 1 else (ev k).1.L u, (ev k).1.T⟩, (ev k).2 ++ [-1])) := by
              show _ = _
              rw [hst.out]
              unfold evStp
              rw [if_pos hkd]
              simp only [Int.toNat_natCast]
              congr 2
              funext u
              by_cases e : u = V
              · subst e; simp
              · simp [e]
            have cv := owns_int HC.out.left V hVN
            rw [vecOf_get _ _ _ hVN] at cv
            have fv := HC.out.left.frozenAt V
            have hlv := (owns_lt HC.out.left).2
            have hbb := hbx.out.1 V hVN
            have HSL : Hid (Co 3 W1.heap.size (W3.setCell ⟨bl, V, none⟩ (.int .i64 ((ev k).1.L V + 1))).drew bx bl cl bt N (.slice at' (ev k).2.length ct) (ev k).2 (ev (k + 1)).1.L (ev (k + 1)).1.T) := by
              rw [hres.out]
              exact ((HC.out.setL V _).congr (fun u _ => rfl) (fun u _ => rfl)).drew
            have HSB : Hid (Below W1.heap.size W1 (W3.setCell ⟨bl, V, none⟩ (.int .i64 ((ev k).1.L V + 1))).drew) := (HB.out.setCell (p := ⟨bl, V, none⟩) (owns_lt HC.out.left).1 _).drew
            have HTR : Hid ((ev (k + 1)).2 = (ev k).2 ++ [-1]) := by show _ = _; rw [hres.out]
            generalize (ev k).1.L V = y at *
            have ww : IntKind.i64.wrap (y + 1) = y + 1 := IntWalk.i64_in _ (by omega)
            have hV1 : (V : Int) < (N : Int) := by omega
            have hV0 : (0 : Int) ≤ (V : Int) := by omega
            clear hkd hst hres hbb hhx HC HB hbx
            go_wp2
            let S : World → Prop := fun w' => w'.cell? ⟨bx, 0, none⟩ = some (.slice (some ⟨bl, 0, none⟩) N cl) ∧ w'.cell? ⟨b', off' + k * 2 + 1, none⟩ = some (.int .i64 V) ∧ w'.cell? ⟨bl, V, none⟩ = some (.int .i64 y)
            (refine wp_region_text 11 [0,1,2,3,4,5,6,7,8,9,10] S (by kernel_rfl) (by kernel_rfl) (by intro _ _ d _ _ h; cases d <;> exact h) ?hS ?_; rotate_left; simp only [List.map_cons, List.map_nil, List.getD_cons_zero, List.getD_cons_succ, List.drop_succ_cons, List.drop_zero])
            case hS => exact ⟨p0, c2, cv⟩
            (repeat (refine' wpSeq_take rfl _ (by rfl) ?_ ?_; rotate_left; focus (intro w' hS; (try dsimp only at hS); obtain ⟨s1, s2, s3⟩ := hS; go_simp; (first | done | with_reducible rfl)); (try simp only [Act.put, List.setIfInBounds_toArray, List.set_cons_zero, List.set_cons_succ])))
            refine wpSeq_nil ?_
            clear S
            go_wp2
            go_meet
            exact ⟨-1, bl, cl, rfl, HTR, HSL, HSB⟩
          · have hkb : (kd == 1) = false := by rw [beq_eq_false_iff_ne]; exact hkd
            have hGN : g.n.toNat = N := by omega
            have g1 : W3.cell? ⟨w.heap.size, 0, none⟩ = some (.int .i64 g.n) := (HB.out.cell (p := ⟨w.heap.size, 0, none⟩) (by have := HGA.out; dsimp only; omega)).trans f1
            have g2 : W3.cell? ⟨w.heap.size, 1, none⟩ = some ev0 := (HB.out.cell (p := ⟨w.heap.size, 1, none⟩) (by have := HGA.out; dsimp only; omega)).trans f2
            have HG3 := hid (HG1.out.below HB.out)
            have hwait : Hid (Calls Try.prog 79 #[.agg #[.int .i64 g.n, ev0], .int .i64 q, .slice (some ⟨bl, 0, none⟩) N cl] W3 fun e w'' => ∃ v, e = .returned v ∧
                w''.ownsRow W3.heap.size 3 1 v (waitN g q N (ev k).1.L).length ((waitN g q N (ev k).1.L).map (Value.int .i64)) ∧ Below W3.heap.size W3 w'') := by
              have h := r19_Waiting g _ q (vecOf N (ev k).1.L) _ W3 HG3.out HK.out (owns_intsN HC.out.left (vecOf_len _ _) (by omega)) (by rw [vecOf_len]; omega)
              have e : waitTo (unst q (fun u => valence g u) (vecOf N (ev k).1.L)) g.n.toNat = waitN g q N (ev k).1.L := by
                rw [hGN]
                exact waitTo_congr _ _ _ fun v hv => by unfold unst isUnst; rw [vecOf_get _ _ _ hv]
              rw [e] at h
              exact h
            by_cases hw0 : waitN g q N (ev k).1.L = []
            · have hres : Hid (ev (k + 1) = ((ev k).1, (ev k).2 ++ [-1])) := by
                show _ = _
                rw [hst.out]
                unfold evStp
                rw [if_neg hkd, if_pos hw0]
              have HTR : Hid ((ev (k + 1)).2 = (ev k).2 ++ [-1]) := by show _ = _; rw [hres.out]
              have HLT : Hid ((ev (k + 1)).1 = (ev k).1) := by show _ = _; rw [hres.out]
              rw [hw0, List.length_nil] at hwait
              clear hst hw0 hkd hres hhx hbx HG3
              go_wp2_with (go_at_call 79; refine hwait.out.mono ?_; rintro e W4 ⟨v, rfl, ho, hB4⟩; obtain ⟨ax, cx, rfl⟩ := owns_slice ho; have HB4 := hid hB4; clear ho hB4)
              go_meet
              exact ⟨-1, bl, cl, rfl, HTR, by rw [HLT.out]; exact HC.out.mono HB4.out, HB.out.trans (HB4.out.mono HB.out.size)⟩
            · have hln2 : 0 < (waitN g q N (ev k).1.L).length := List.length_pos_iff.2 hw0
              have hch := chosen_bd g q N (ev k).1.L vl hhx.2.1 hw0
              have hm1 := Int.emod_lt_of_pos vl (show (0 : Int) < ((waitN g q N (ev k).1.L).length : Int) by omega)
              have hm2 := Int.emod_nonneg vl (show ((waitN g q N (ev k).1.L).length : Int) ≠ 0 by omega)
              have hres : Hid (ev (k + 1) = (fireS g (chosen (waitN g q N (ev k).1.L) vl).toNat (ev k).1, (ev k).2 ++ [chosen (waitN g q N (ev k).1.L) vl])) := by
                show _ = _
                rw [hst.out]
                unfold evStp
                rw [if_neg hkd, if_neg hw0]
              obtain ⟨X, hX⟩ := Int.eq_ofNat_of_zero_le hch.1
              rw [hX] at hch hres
              have hXN : X < N := by omega
              have hpm : vl.tmod ((waitN g q N (ev k).1.L).length : Int) = vl % ((waitN g q N (ev k).1.L).length : Int) := Int.tmod_eq_emod_of_nonneg hhx.2.1
              obtain ⟨j, hj⟩ := Int.eq_ofNat_of_zero_le hm2
              have hjl : j < (waitN g q N (ev k).1.L).length := by omega
              have hcell : Hid (∀ (w2 : World) (base br cr : Nat), w2.ownsRow base 3 1 (.slice (some ⟨br, 0, none⟩) (waitN g q N (ev k).1.L).length cr) (waitN g q N (ev k).1.L).length ((waitN g q N (ev k).1.L).map (Value.int .i64)) →
                  w2.cell? ⟨br, j, none⟩ = some (.int .i64 X)) := fun w2 base br cr ho => by
                rw [owns_int ho _ hjl]
                rw [← hX]
                unfold chosen
                rw [hj, Int.toNat_natCast]
              rw [hj] at hpm
              have HTR : Hid ((ev (k + 1)).2 = (ev k).2 ++ [(X : Int)]) := by show _ = _; rw [hres.out]
              have HL1 : Hid (∀ u, u < N → fireL g X (ev k).1.L u = (ev (k + 1)).1.L u) := fun u _ => by rw [hres.out, Int.toNat_natCast]; rfl
              have HT1 : Hid (∀ u, u < N → (if u = X then (ev k).1.T X + 1 else (ev k).1.T u) = (ev (k + 1)).1.T u) := fun u _ => by
                rw [hres.out, Int.toNat_natCast]
                show _ = if u = X then (ev k).1.T u + 1 else (ev k).1.T u
                by_cases e : u = X
                · subst e; simp
                · simp [e]
              have htb := hbx.out.2 X hXN
              have hLb : Hid (∀ u, u < N → -1000000000000 ≤ (ev k).1.L u ∧ (ev k).1.L u ≤ 1000000000000) := fun u hu => by have := hbx.out.1 u hu; omega
              generalize (waitN g q N (ev k).1.L).length = n at *
              have hn0 : ¬ n = 0 := by omega
              have hjn : (j : Int) < (n : Int) := by omega
              have hj0 : (0 : Int) ≤ (j : Int) := by omega
              have hX1 : (X : Int) < (N : Int) := by omega
              have hX2 : (X : Int) < g.n := by omega
              have hX0 : (0 : Int) ≤ (X : Int) := by omega
              have wt : IntKind.i64.wrap ((ev k).1.T X + 1) = (ev k).1.T X + 1 := IntWalk.i64_in _ (by omega)
              have hn1' : (0 : Int) < (n : Int) := by omega
              have HBL : Hid (b' < W3.heap.size) := hb'
              clear hst hw0 hkd hres hch hX hhx hbx hm1 hm2 hj HG3
              go_wp2_with (go_at_call 79; refine hwait.out.mono ?_; rintro e W4 ⟨v, rfl, ho, hB4⟩; obtain ⟨br, cr, rfl, _, hbr⟩ := owns_some ho hln2; have cj := hcell.out W4 _ br cr ho; have c3 := (hB4.cell (p := ⟨b', off' + k * 2 + 1, none⟩) HBL.out).trans c2; have HB4 := hid (HB.out.trans (hB4.mono HB.out.size)); have HC4 := hid (HC.out.mono hB4); have q0 := (hB4.cell (p := ⟨bx, 0, none⟩) hbxl).trans p0; have g3 := (hB4.cell (p := ⟨w.heap.size, 0, none⟩) (by have := HB.out.size; have := HGA.out; dsimp only; omega)).trans g1; have g4 := (hB4.cell (p := ⟨w.heap.size, 1, none⟩) (by have := HB.out.size; have := HGA.out; dsimp only; omega)).trans g2; have HS4 := hid hB4.size; clear ho hB4)
              have HG4 := hid (HG1.out.below HB4.out.drew)
              have HOne : Hid (∀ W' : World, GrR W' (.agg #[.int .i64 g.n, ev0]) g → Calls Try.prog 81 #[.agg #[.int .i64 g.n, ev0], .int .i64 X, .int .i64 1] W' fun e w' => ∃ b, e = .returned (.slice (some ⟨b, 0, none⟩) N N) ∧
                  w'.ownsRow W'.heap.size 3 1 (.slice (some ⟨b, 0, none⟩) N N) N ((vecOf N (oneAt X 1)).map (Value.int .i64)) ∧ Below W'.heap.size W' w') := fun W' h => by
                have := r18_One g _ X 1 W' h HK.out hX0 hX2
                rw [hGN] at this
                exact this
              let S : World → Prop := fun w' => w'.cell? ⟨w.heap.size, 0, none⟩ = some (.int .i64 g.n) ∧ w'.cell? ⟨w.heap.size, 1, none⟩ = some ev0 ∧ w'.cell? ⟨bx, 0, none⟩ = some (.slice (some ⟨bl, 0, none⟩) N cl)
              (refine wp_region_text 8 [0,1,2,3,4,5,6,7] S (by kernel_rfl) (by kernel_rfl) (by intro _ _ d _ _ h; cases d <;> exact h) ?hS ?_; rotate_left; simp only [List.map_cons, List.map_nil, List.getD_cons_zero, List.getD_cons_succ, List.drop_succ_cons, List.drop_zero])
              case hS => exact ⟨g3, g4, q0⟩
              (repeat (refine' wpSeq_take rfl _ (by rfl) ?_ ?_; rotate_left; focus (intro w' hS; (try dsimp only at hS); obtain ⟨s1, s2, s3⟩ := hS; go_simp; (first | done | with_reducible rfl)); (try simp only [Act.put, List.setIfInBounds_toArray, List.set_cons_zero, List.set_cons_succ])))
              have lg : w.heap.size < W4.heap.size := by have := HB4.out.size; have := HGA.out; omega
              have lx : bx < W4.heap.size := HC4.out.blk.lt
              refine wpSeq_call rfl (by rfl) (fun K hK => ?_)
              go_simp
              refine (HOne.out _ HG4.out).mono ?_
              rintro e W5 ⟨b5, rfl, ho5, hB5⟩
              have hk5 : Below W4.heap.size W4 W5 := (Below.refl _ W4).drew.trans hB5
              have hS5 : S W5 := ⟨(hk5.cell (p := ⟨w.heap.size, 0, none⟩) lg).trans g3, (hk5.cell (p := ⟨w.heap.size, 1, none⟩) lg).trans g4, (hk5.cell (p := ⟨bx, 0, none⟩) lx).trans q0⟩
              refine hK _ _ hS5 ?_
              clear hK K
              have hB5' : Below W1.heap.size W1 W5 := HB4.out.trans (hk5.mono HB4.out.size)
              have HC5 := hid (HC4.out.mono hk5)
              have HMv := hid (r18_fire g _ N hN1 hN2 (ev k).1.L _ _ W5 (HG1.out.below hB5') HK.out (owns_intsN HC5.out.left (vecOf_len _ _) (by omega)) X hXN (owns_intsN ho5 (vecOf_len _ _) (by omega)) hLb.out)
              refine wpSeq_call rfl (by rfl) (fun K hK => ?_)
              go_simp
              refine HMv.out.mono ?_
              rintro e W6 ⟨b6, c6, rfl, ho6, hB6⟩
              have lg5 := hk5.size
              have hS6 : S W6 := ⟨(hB6.cell (p := ⟨w.heap.size, 0, none⟩) (by dsimp only; omega)).trans hS5.1, (hB6.cell (p := ⟨w.heap.size, 1, none⟩) (by dsimp only; omega)).trans hS5.2.1, (hB6.cell (p := ⟨bx, 0, none⟩) (by dsimp only; omega)).trans hS5.2.2⟩
              refine hK _ _ hS6 ?_
              clear hK K HMv
              (repeat (refine' wpSeq_take rfl _ (by rfl) ?_ ?_; rotate_left; focus (intro w' hS; (try dsimp only at hS); obtain ⟨s1, s2, s3⟩ := hS; go_simp; (first | done | with_reducible rfl)); (try simp only [Act.put, List.setIfInBounds_toArray, List.set_cons_zero, List.set_cons_succ])))
              refine wpSeq_nil ?_
              have q6 : W6.cell? ⟨bx, 0, none⟩ = some (.slice (some ⟨bl, 0, none⟩) N cl) := hS6.2.2
              have x6 := fun j => (HC5.out.blk.below hB6).frozen j
              have l6 := (HC5.out.blk.below hB6).lt
              have hsz5 := hB5'.size
              have HC6 := hid (HC5.out.newL hB6 ho6 hsz5)
              have HB6 := hid ((hB5'.trans (hB6.mono hsz5)).setCell (p := ⟨bx, 0, none⟩) (by exact HC5.out.hb) (.slice (some ⟨b6, 0, none⟩) N c6))
              clear S hS5 hS6 hk5 hB5 ho5 ho6 hB6 hB5' HC5 HC4 HB4 HG4 HC HB HOne cj c3 q0 g3 g4 p0 p1 g1 g2 c1 c2
              go_upto_region 12 with fail
              obtain ⟨W7, hW7⟩ : ∃ W : World, W = W6.setCell ⟨bx, 0, none⟩ (.slice (some ⟨b6, 0, none⟩) N c6) := ⟨_, rfl⟩
              rw [← hW7]
              have HC7 : Hid (Co 3 W1.heap.size W7 bx b6 c6 bt N (.slice at' (ev k).2.length ct) (ev k).2 (fireL g X (ev k).1.L) (ev k).1.T) := by rw [hW7]; exact HC6.out
              have HB7 : Hid (Below W1.heap.size W1 W7) := by rw [hW7]; exact HB6.out
              clear hW7 HC6 HB6 q6 x6 l6
              have y1 := HC7.out.blk.cell 1
              simp only [List.getElem?_toArray, List.getElem?_cons_zero, List.getElem?_cons_succ] at y1
              have yt := owns_int HC7.out.times X hXN
              rw [vecOf_get _ _ _ hXN] at yt
              have ft := HC7.out.times.frozenAt X
              have ltt := (owns_lt HC7.out.times).2
              have HC8 := hid ((HC7.out.setT X ((ev k).1.T X + 1)).congr HL1.out HT1.out)
              have HB8 := hid (HB7.out.setCell (p := ⟨bt, X, none⟩) (by exact (owns_lt HC7.out.times).1) (.int .i64 ((ev k).1.T X + 1)))
              go_wp2
              go_meet
              exact ⟨X, b6, c6, rfl, HTR, HC8, HB8⟩
        case rest =>
          obtain ⟨y, bl2, cl2, rfl, HTR, HC4, HB4⟩ := hcut
          obtain ⟨W4, rfl⟩ : ∃ W : World, W = wc := ⟨_, rfl⟩
          clear HC HB p0 p1 px hbxl c1 c2 hst hhx hbx
          have x2 := HC4.out.blk.cell 2
          simp only [List.getElem?_toArray, List.getElem?_cons_zero, List.getElem?_cons_succ] at x2
          have hbn0 := hid HB4.out.size
          have HLL : Hid ((ev k).2.length ≤ 1000000000000) := by show _ ≤ _; have := HLK.out; omega
          have hyk : Hid (k + 1 ≤ l.length) := hlt
          go_wp2_with (at_builtin; refine wpList_app1L W4 rfl _ _ 25 rfl 3 Try.underInts Try.infoInt W1.heap.size _ (ev k).2 HC4.out.tra y W4.heap.size rfl rfl rfl HLL.out hbn0.out ?_; intro bn cn w' hown hgr hat hlt'; have HPu := hid (HC4.out.push (by simp) hown hgr hat); have HPb := hid (HC4.out.pushB HB4.out hbn0.out hgr (.slice (some ⟨bn, 0, none⟩) ((ev k).2.length + 1) cn)); have hb2 := HC4.out.blk.grown hgr (fun e => (HC4.out.sep bx e).2.2 rfl); have y0 := hb2.cell 2; have y1 := fun j => hb2.frozen j; have y2 := hb2.lt; simp only [List.getElem?_toArray, List.getElem?_cons_zero, List.getElem?_cons_succ] at y0; clear hown hgr hat hb2)
          go_roundw
          case rel =>
            rw [← HTR.out] at HPu
            exact ⟨k + 1, bl2, cl2, _, hyk.out, by go_num, HPu, HPb⟩
          case measure => simp [intOf]; omega
      · obtain rfl : k = l.length := by omega
        have hlt' : ¬ (l.length : Int) < (l.length : Int) := by omega
        have p0 := HC.out.blk.cell 0
        have p1 := HC.out.blk.cell 1
        have p2 := HC.out.blk.cell 2
        simp only [List.getElem?_toArray, List.getElem?_cons_zero, List.getElem?_cons_succ] at p0 p1 p2
        have HR3 := hid (HR1.out.below HB.out)
        have rr0 := HR3.out.cell 0
        have rr1 := HR3.out.cell 1
        have rr2 := HR3.out.cell 2
        have rf := fun j => HR3.out.frozen j
        have hrl := HR3.out.lt
        have hbxl := HC.out.blk.lt
        simp only [List.getElem?_toArray, List.getElem?_cons_zero, List.getElem?_cons_succ] at rr0 rr1 rr2
        have HRT := hid (ret_course HC.out (HBW.out.trans (HB.out.mono HBW.out.size)) HGA.out (.slice (some ⟨bl, 0, none⟩) N cl) (.slice (some ⟨bt, 0, none⟩) N N) (.slice at' (ev l.length).2.length ct))
        go_wp2
        refine bodyPost_ret (results_cell1 rfl rfl (load_course (blkSet3 HR3.out))) rfl ?_
        exact ⟨HRT.out.1, bl, cl, bt, N, _, rfl, HRT.out.2.1, HRT.out.2.2.1, HRT.out.2.2.2⟩

end Go.Proofs.Ytlhbgainpeehoaa
