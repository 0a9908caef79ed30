/-
  Contract of the program's schedule: begin.
-/
import Derived.Test.YtbjoblkigbphhaaGreatP9
import Derived.Lib.SliceRun
namespace Go.Proofs.YtbjoblkigbphhaaGreat
open Go.RowKit

set_option maxRecDepth 100000 in
set_option maxHeartbeats 2000000 in
theorem c_Clone (ds : List Int) (dv : Value) (w : World) (hd : IntsR w dv ds) (h0 : 0 < ds.length) :
    Calls Tryz.prog 56 #[dv] w fun e w' => ∃ b c, e = .returned (.slice (some ⟨b, 0, none⟩) ds.length c) ∧
      w'.ownsRow w.heap.size 3 1 (.slice (some ⟨b, 0, none⟩) ds.length c) ds.length (ds.map (Value.int .i64)) ∧ Below w.heap.size w w' := by
  obtain ⟨a, cap, rfl, hcap, hcm, hlen, hc⟩ := hd
  obtain ⟨b, off, rfl, hb, hcs⟩ := hc.int h0
  have HC := hid hc
  have qT : ∀ (w : World) (a : Option Addr) (n c n' c' : Nat), (binOp .eql 26 (.slice a n c) (.slice none n' c')).run Tryz.prog w = .ok (.bool a.isNone) w := fun w a n c n' c' => Lib.run_eql_slice_nil w 26 3 a n c n' c' Tryz.underDiv
  clear hcs hc
  go_enter Tryz.func56, Tryz.ntmps56
  go_wp2_with (at_builtin; go_loud (refine wpList_clone w rfl _ _ 26 rfl 3 Tryz.underDiv Tryz.infoInt w.heap.size rfl b off cap ds HC.out hlen rfl rfl ?_); intro v' w1 hown hB1 _)
  obtain ⟨b1, c1, rfl, _⟩ := owns_some hown h0
  go_wp2
  go_ret
  exact ⟨b1, c1, rfl, hown, hB1⟩

section
variable {P : Program} {ops : Array Oper} {o : Oper} {a : Act} {w : World} {K : Act → World → Prop} {Q : Exit → Act → World → Prop} {F : Prop}
theorem step_val (hgd : o.guard = none) (v : Value) (w' : World) (hr : (execOp a.eval o).run P w = .ok (.value v) w') (h : K (a.put o.dst v) w') :
    if Region.wanted o (yielded ops a.tmps) = true then Oper.wp P o a w K Q else F := by
  rw [if_pos (by simp [Region.wanted, hgd])]
  unfold Oper.wp
  rw [hr]
  exact h
/-- make([]T, n), as a step of a region that draws its order. -/
theorem step_zer (hgd : o.guard = none) (l c : Operand) (t : TypeId) (ho : o.op = .makeSlice t l c) (e : TypeId) (ht : P.underlying t = some (.slice e)) (hinfo : (P.info? e).map (fun i => (i.zero, i.size, i.bytes)) = some (some (.int .i64 0), 1, 8))
    (n : Int) (N : Nat) (h1 : (N : Int) ≤ n) (h2 : n ≤ (N : Int)) (h3 : N ≤ 1000) (hl : a.eval l = .int .i64 n) (hc : a.eval c = .int .i64 n)
    (h : ∀ B w', B = w.heap.size → w'.ownsRow B e 1 (.slice (some ⟨B, 0, none⟩) N N) N ((vecOf N fun _ => 0).map (Value.int .i64)) → Below w.heap.size w w' → B < w'.heap.size → K (a.put o.dst (.slice (some ⟨B, 0, none⟩) N N)) w') :
    if Region.wanted o (yielded ops a.tmps) = true then Oper.wp P o a w K Q else F := by
  have hr := run_zer (P := P) t e ht hinfo n N h1 h2 h3 w
  refine step_val hgd _ _ ?_ (h w.heap.size _ rfl (owns_zer _ (heap_new _ _) (Nat.le_refl _) h3) ((Below.refl _ _).alloc (Nat.le_refl _) _) (by simp))
  simp [execOp, ho, hl, hc, hr, Result.andThen]
/-- A new variable, as a step of a region that draws its order. -/
theorem step_new (hgd : o.guard = none) (t : TypeId) (ho : o.op = .alloc t) (zs : Array Value) (hr : ∀ w, (Instr.alloc t true (.tuple #[])).run P w = .ok (.pointer (some ⟨w.heap.size, 0, none⟩)) (w.alloc (.cells zs t)))
    (h : ∀ B w', B = w.heap.size → Blk w' B zs t → Below w.heap.size w w' → B < w'.heap.size → K (a.put o.dst (.pointer (some ⟨B, 0, none⟩))) w') :
    if Region.wanted o (yielded ops a.tmps) = true then Oper.wp P o a w K Q else F := by
  refine step_val hgd _ _ ?_ (h w.heap.size _ rfl (Blk.new _ _ _) ((Below.refl _ _).alloc (Nat.le_refl _) _) (by simp))
  simp [execOp, ho, hr, Result.andThen]
end

theorem balloc {W1 w : World} (h : Below W1.heap.size W1 w) (o : Obj) : Below W1.heap.size W1 (w.alloc o) := h.alloc h.size o

theorem bset {W1 w : World} (h : Below W1.heap.size W1 w) {p : Addr} (hp : W1.heap.size ≤ p.block) (u : Value) : Below W1.heap.size W1 (w.setCell p u) := h.setCell hp u

theorem blkNew {w : World} {cs : Array Value} {t : TypeId} {b : Nat} (h : b = w.heap.size) : Blk (w.alloc (.cells cs t)) b cs t := by subst h; exact Blk.new _ _ _
theorem blkDrew {w : World} {cs : Array Value} {t : TypeId} {b : Nat} (h : Blk w b cs t) : Blk w.drew b cs t := h
theorem blkSet6 {w : World} {t : TypeId} {b : Nat} {v0 v1 v2 v3 v4 v5 : Value} (h : Blk w b #[.int .i64 0, .slice none 0 0, .int .i64 0, .slice none 0 0, .slice none 0 0, .slice none 0 0] t) :
    Blk ((((((w.setCell ⟨b, 0, none⟩ v0).setCell ⟨b, 1, none⟩ v1).setCell ⟨b, 2, none⟩ v2).setCell ⟨b, 3, none⟩ v3).setCell ⟨b, 4, none⟩ v4).setCell ⟨b, 5, none⟩ v5) b #[v0, v1, v2, v3, v4, v5] t :=
  ((((((h.set 0 v0).set 1 v1).set 2 v2).set 3 v3).set 4 v4).set 5 v5)
theorem ownSet6 {w : World} {b base g n cap : Nat} {e : TypeId} {xs : List Value} {v0 v1 v2 v3 v4 v5 : Value} (h : w.ownsRow base e 1 (.slice (some ⟨g, 0, none⟩) n cap) n xs) (hne : g ≠ b) :
    ((((((w.setCell ⟨b, 0, none⟩ v0).setCell ⟨b, 1, none⟩ v1).setCell ⟨b, 2, none⟩ v2).setCell ⟨b, 3, none⟩ v3).setCell ⟨b, 4, none⟩ v4).setCell ⟨b, 5, none⟩ v5).ownsRow base e 1 (.slice (some ⟨g, 0, none⟩) n cap) n xs :=
  owns_other (owns_other (owns_other (owns_other (owns_other (owns_other h hne 0 v0) hne 1 v1) hne 2 v2) hne 3 v3) hne 4 v4) hne 5 v5
theorem ownZ {w : World} {B base N : Nat} {e : TypeId} (h : B = w.heap.size) (hb : base ≤ w.heap.size) (hN : N ≤ 1000) : (w.alloc (.cells (zer N) e)).ownsRow base e 1 (.slice (some ⟨B, 0, none⟩) N N) N ((vecOf N fun _ => 0).map (Value.int .i64)) := by
  subst h
  exact owns_zer base (heap_new _ _) hb hN

theorem new_state (w : World) : (Instr.alloc 79 true (.tuple #[])).run Tryz.prog w = .ok (.pointer (some ⟨w.heap.size, 0, none⟩)) (w.alloc (.cells #[.int .i64 0, .slice none 0 0, .int .i64 0, .slice none 0 0, .slice none 0 0, .slice none 0 0] 79)) := by kernel_rfl

theorem load_state {w : World} {b : Nat} {v0 v1 v2 v3 v4 v5 : Value} (h : Blk w b #[v0, v1, v2, v3, v4, v5] 79) : (loadVar 79 ⟨b, 0, none⟩).run Tryz.prog w = .ok (.agg #[v0, v1, v2, v3, v4, v5]) w := by
  have hlt := h.lt
  have c0 := h.cell 0
  have c1 := h.cell 1
  have c2 := h.cell 2
  have c3 := h.cell 3
  have c4 := h.cell 4
  have c5 := h.cell 5
  simp only [List.getElem?_toArray, List.getElem?_cons_zero, List.getElem?_cons_succ] at c0 c1 c2 c3 c4 c5
  go_simp

/-- The struct of a state is handed back. -/
def RetBegin (T0 : TypeId) (w : World) (g : G) (ev : Value) (q N : Nat) (ds : List Int) (e : Ending) (w' : World) : Prop :=
  Below w.heap.size w w' ∧ ∃ bl cl bt bv, e = .returned (.agg #[.int .i64 g.n, ev, .int .i64 q, .slice (some ⟨bl, 0, none⟩) N cl, .slice (some ⟨bt, 0, none⟩) N N, .slice (some ⟨bv, 0, none⟩) N N]) ∧
    w'.ownsRow w.heap.size T0 1 (.slice (some ⟨bl, 0, none⟩) N cl) N ((vecOf N (dOf ds)).map (Value.int .i64)) ∧
    w'.ownsRow w.heap.size T0 1 (.slice (some ⟨bt, 0, none⟩) N N) N ((vecOf N fun _ => 0).map (Value.int .i64)) ∧
    w'.ownsRow w.heap.size T0 1 (.slice (some ⟨bv, 0, none⟩) N N) N ((vecOf N fun v => valence g v).map (Value.int .i64)) ∧ bl ≠ bt ∧ bl ≠ bv ∧ bt ≠ bv

set_option maxRecDepth 100000 in
set_option maxHeartbeats 40000000 in
theorem p_begin (g : G) (ev : Value) (hk : Gok g) (N : Nat) (hN : g.n = N) (q : Nat) (ds : List Int) (dv : Value) (hl : ds.length = N) (w : World) (hg : GrR w (.agg #[.int .i64 g.n, ev]) g) (hd : IntsR w dv ds) :
    Calls Tryz.prog 40 #[.agg #[.int .i64 g.n, ev], .int .i64 q, dv] w (RetBegin 3 w g ev q N ds) := by
  have hg' := hg
  obtain ⟨ev', he, a, cap, rfl, hcap, hcm, hlen, hc⟩ := hg'
  obtain rfl : ev = .slice a g.es.length cap := by injection he with h; injection h with h; injection h with _ h; injection h
  clear he
  obtain ⟨hn1, hn2⟩ := hk.n
  have hN1 : 1 ≤ N := by omega
  have hN2 : N ≤ 12 := by omega
  have hW : Below w.heap.size w (w.alloc (.cells #[.int .i64 g.n, (.slice a g.es.length cap)] 24)) := by go_grown
  have hgr := hid (hg.below hW)
  have hdr := hid (hd.below hW)
  have HN := hid hN
  have hM1 : (N : Int) ≤ g.n := by omega
  have hM2 : g.n ≤ (N : Int) := by omega
  clear hn1 hn2 hN
  go_enter Tryz.func40, Tryz.ntmps40
  go_upto_region 1 with fail
  obtain ⟨W1, hW1⟩ : ∃ W : World, W = ((w.alloc (.cells #[.int .i64 g.n, (.slice a g.es.length cap)] 24)).alloc (.cells #[.int .i64 0, .slice none 0 0, .int .i64 0, .slice none 0 0, .slice none 0 0, .slice none 0 0] 79)) := ⟨_, rfl⟩
  have hBw : Below w.heap.size w W1 := by rw [hW1]; go_grown
  have e0 : W1.cell? ⟨w.heap.size, 0, none⟩ = some (.int .i64 g.n) := by rw [hW1]; simp
  have e1 : W1.cell? ⟨w.heap.size, 1, none⟩ = some (.slice a g.es.length cap) := by rw [hW1]; simp
  have hb6 : Blk W1 (w.heap.size + 1) #[.int .i64 0, .slice none 0 0, .int .i64 0, .slice none 0 0, .slice none 0 0, .slice none 0 0] 79 := by
    rw [hW1]
    have := Blk.new (w.alloc (.cells #[.int .i64 g.n, (.slice a g.es.length cap)] 24)) #[.int .i64 0, .slice none 0 0, .int .i64 0, .slice none 0 0, .slice none 0 0, .slice none 0 0] 79
    simpa using this
  have hs1 : W1.heap.size = w.heap.size + 2 := by rw [hW1]; simp
  rw [← hW1]
  clear hW1
  go_cut [7] (fun s7 W2 => ∃ b7 bl cl bt bv, s7 = .pointer (some ⟨b7, 0, none⟩) ∧ Blk W2 b7 #[.int .i64 g.n, (.slice a g.es.length cap), .int .i64 q, .slice (some ⟨bl, 0, none⟩) N cl, .slice (some ⟨bt, 0, none⟩) N N, .slice (some ⟨bv, 0, none⟩) N N] 79 ∧
    W2.ownsRow W1.heap.size 3 1 (.slice (some ⟨bl, 0, none⟩) N cl) N (ds.map (Value.int .i64)) ∧
    W2.ownsRow W1.heap.size 3 1 (.slice (some ⟨bt, 0, none⟩) N N) N ((vecOf N fun _ => 0).map (Value.int .i64)) ∧
    W2.ownsRow W1.heap.size 3 1 (.slice (some ⟨bv, 0, none⟩) N N) N ((vecOf N fun _ => 0).map (Value.int .i64)) ∧ W1.heap.size ≤ b7 ∧ b7 ≠ bl ∧ b7 ≠ bt ∧ b7 ≠ bv ∧ bl ≠ bt ∧ bl ≠ bv ∧ bt ≠ bv ∧ Below W1.heap.size W1 W2)
  case first =>
    have HS1 := hid hs1
    clear hs1
    have hN1000 : N ≤ 1000 := by omega
    have z1 : W1.heap.size < W1.heap.size + 1 + 1 := by omega
    have z2 : W1.heap.size < W1.heap.size + 1 + 1 + 1 := by omega
    have z3 : W1.heap.size + 1 < W1.heap.size + 1 + 1 + 1 := by omega
    have hmkS := run_zer (P := Tryz.prog) 27 3 Tryz.underScript Tryz.infoInt g.n N hM1 hM2 hN1000
    have hmkI := run_zer (P := Tryz.prog) 25 3 Tryz.underInts Tryz.infoInt g.n N hM1 hM2 hN1000
    have h0 : Below W1.heap.size W1 W1.drew := below_dN (Below.refl _ _) 1
    have hCl : Hid (∀ W', Below W1.heap.size W1 W' → Calls Tryz.prog 56 #[dv] W' fun e w' => ∃ b c, e = .returned (.slice (some ⟨b, 0, none⟩) N c) ∧
      w'.ownsRow W'.heap.size 3 1 (.slice (some ⟨b, 0, none⟩) N c) N (ds.map (Value.int .i64)) ∧ Below W'.heap.size W' w') := fun W' h => by
        have := c_Clone ds dv W' (hd.below (hBw.trans (h.mono hBw.size))) (by omega)
        rw [hl] at this
        exact this
    have hRd : Hid (∀ W', Below W1.heap.size W1 W' → W'.cell? ⟨w.heap.size, 0, none⟩ = some (.int .i64 g.n) ∧ W'.cell? ⟨w.heap.size, 1, none⟩ = some (.slice a g.es.length cap)) := fun W' h => ⟨(h.cell (p := ⟨w.heap.size, 0, none⟩) (by have := HS1.out; dsimp only; omega)).trans e0, (h.cell (p := ⟨w.heap.size, 1, none⟩) (by have := HS1.out; dsimp only; omega)).trans e1⟩
    go_region_held3 (fun w' => w'.cell? ⟨w.heap.size, 0, none⟩ = some (.int .i64 g.n) ∧ w'.cell? ⟨w.heap.size, 1, none⟩ = some (.slice a g.es.length cap))
      ((refine hRd.out _ ?_; (repeat (first | with_reducible assumption | with_reducible exact Below.refl _ _ | with_reducible refine balloc ?_ _ | with_reducible refine Below.drew ?_ | (with_reducible refine bset ?_ ?_ _; rotate_left; (dsimp only; omega))))))
      ((go_at_call 56; refine (hCl.out _ (by (repeat (first | with_reducible assumption | with_reducible exact Below.refl _ _ | with_reducible refine balloc ?_ _ | with_reducible refine Below.drew ?_ | (with_reducible refine bset ?_ ?_ _; rotate_left; (dsimp only; omega)))))).mono ?_; rintro e wA ⟨bl, cl, rfl, hoL, hBL⟩; obtain ⟨r1, r2⟩ := bcell hBL; have hzA := hBL.size; (try simp only [World.size_alloc, World.size_drew] at hzA); have hlA := fun b h => Nat.lt_of_lt_of_le (n := b) h hBL.size; (try simp only [World.size_alloc, World.size_drew] at hlA); have hlB := fun b j h => Nat.lt_of_lt_of_le (n := b) h (Nat.le_trans hBL.size (Nat.le_add_right _ j)); (try simp only [World.size_alloc, World.size_drew] at hlB); (try simp only [World.size_alloc, World.size_drew] at r1); (try simp only [World.size_alloc, World.size_drew] at r2); have hXA := bext (s := W1.heap.size) (W0 := W1) (by (repeat (first | with_reducible assumption | with_reducible exact Below.refl _ _ | with_reducible refine balloc ?_ _ | with_reducible refine Below.drew ?_ | (with_reducible refine bset ?_ ?_ _; rotate_left; (dsimp only; omega))))) (Nat.le_refl _) hBL; have hXs := hXA.size; have hXs1 := Nat.lt_succ_of_le hXs))
    all_goals
      go_wp2_with fail
      go_meet
      have hbl := owns_lt hoL
      (try simp only [World.size_alloc, World.size_drew] at hbl)
      refine' ⟨_, bl, cl, _, _, rfl, ?_, ?_, ?_, ?_, ?_, ?_, ?_, ?_, ?_, ?_, ?_, ?_⟩
      rotate_left 2
      · (repeat (first | ((with_reducible refine blkNew ?_); (first | (with_reducible rfl) | omega | (simp only [World.size_alloc]; done) | (simp only [World.size_alloc, World.size_drew, World.size_setCell]; omega))) | (with_reducible refine Blk.alloc ?_ _) | (with_reducible refine blkDrew ?_) | (with_reducible refine blkSet6 ?_) | (with_reducible refine Blk.below ?_ hBL)))
      · (repeat (first | (with_reducible refine World.ownsRow.alloc ?_ _) | (with_reducible refine World.ownsRow.drew ?_) | ((with_reducible refine ownSet6 ?_ ?_); rotate_left; (focus omega)) | ((with_reducible refine owns_base hoL ?_); (first | (with_reducible rfl) | omega | (simp only [World.size_alloc, World.size_drew]; done) | (simp only [World.size_alloc, World.size_drew]; omega)))))
      · (repeat (first | ((with_reducible refine ownZ ?_ ?_ hN1000) <;> (first | (with_reducible rfl) | omega | (simp only [World.size_alloc, World.size_setCell]; done) | (simp only [World.size_alloc, World.size_setCell]; omega))) | (with_reducible refine World.ownsRow.alloc ?_ _) | (with_reducible refine World.ownsRow.drew ?_) | ((with_reducible refine ownSet6 ?_ ?_); rotate_left; (focus omega)) | (with_reducible refine owns_below ?_ hBL)))
      · (repeat (first | ((with_reducible refine ownZ ?_ ?_ hN1000) <;> (first | (with_reducible rfl) | omega | (simp only [World.size_alloc, World.size_setCell]; done) | (simp only [World.size_alloc, World.size_setCell]; omega))) | (with_reducible refine World.ownsRow.alloc ?_ _) | (with_reducible refine World.ownsRow.drew ?_) | ((with_reducible refine ownSet6 ?_ ?_); rotate_left; (focus omega)) | (with_reducible refine owns_below ?_ hBL)))
      · (first | (with_reducible rfl) | omega | (simp only [World.size_alloc, World.size_drew, World.size_setCell]; done) | (simp only [World.size_alloc, World.size_drew, World.size_setCell]; omega))
      · omega
      · omega
      · omega
      · omega
      · omega
      · omega
      · (repeat (first | (with_reducible assumption) | (with_reducible exact Below.refl _ _) | (with_reducible refine balloc ?_ _) | (with_reducible refine Below.drew ?_) | ((with_reducible refine bset ?_ ?_ _); rotate_left; (focus (dsimp only; omega)))))
  case rest =>
    obtain ⟨b7, bl, cl, bt, bv, rfl, hb7, oL, oT, oV, hb7s, n1, n2, n3, n4, n5, n6, hB2⟩ := hcut
    obtain ⟨W2, rfl⟩ : ∃ W : World, W = wc := ⟨_, rfl⟩
    have f0 := (hB2.cell (p := ⟨w.heap.size, 0, none⟩) (by dsimp only; omega)).trans e0
    have f1 := (hB2.cell (p := ⟨w.heap.size, 1, none⟩) (by dsimp only; omega)).trans e1
    have hb6' := hb6.below hB2
    have oV' : W2.ownsRow W1.heap.size 3 1 (.slice (some ⟨bv, 0, none⟩) N N) N ((vecOf N (valTo g 0)).map (Value.int .i64)) := by
      rw [vecOf_congr N (valTo g 0) (fun _ => 0) (fun u _ => valTo_zero g u)]; exact oV
    have hws : w.heap.size + 2 ≤ W2.heap.size := by have := hB2.size; omega
    have hcW := hc.below (hBw.trans (hB2.mono hBw.size))
    have hend := hid (fun k (h : k < g.es.length) => hk.ends k h)
    have HK := hid hk
    have HB2 := hid hB2
    have HBW := hid hBw
    have HOL := hid oL
    have HOT := hid oT
    have HB7 := hid hb7
    have HB6 := hid hb6'
    have l7 := hb7.lt
    have hbold : Hid (∀ b' off', a = some ⟨b', off', none⟩ → g.es ≠ [] → b' < w.heap.size) := fun b' off' e hne => by
      rcases hc with h | ⟨b2, o2, e2, h2, _⟩
      · exfalso; cases hg' : g.es with | nil => exact hne hg' | cons x l => rw [hg'] at h; simp [E.cells] at h
      · rw [e] at e2; injection e2 with e3; injection e3 with e4; omega
    clear oV hb6 hb6' hb7 oL oT hB2 hBw e0 e1 hd hdr hgr hg hW hc hk
    go_wp2
    go_loopw [24] (fun i wr => ∃ k : Nat, k ≤ g.es.length ∧ i = .int .i64 k ∧ Hid (wr.ownsRow W1.heap.size 3 1 (.slice (some ⟨bv, 0, none⟩) N N) N ((vecOf N (valTo g k)).map (Value.int .i64))) ∧ Hid (∀ j, j < W2.heap.size → j ≠ bv → wr.heap[j]? = W2.heap[j]?) ∧ Hid (Below W1.heap.size W1 wr) ∧ W2.heap.size ≤ wr.heap.size)
      (fun i _ => g.es.length - (intOf i).toNat)
    case atStart => exact ⟨0, Nat.zero_le _, rfl, oV', fun _ _ _ => rfl, HB2, Nat.le_refl _⟩
    case round =>
      clear oV'
      obtain ⟨k, hkn, rfl, HV, HP, HBr, hsr⟩ := hrel
      have HK7 : Hid (Blk wr b7 #[.int .i64 g.n, .slice a g.es.length cap, .int .i64 q, .slice (some ⟨bl, 0, none⟩) N cl, .slice (some ⟨bt, 0, none⟩) N N, .slice (some ⟨bv, 0, none⟩) N N] 79) := by
        have h := HB7.out
        have h2 := HP.out b7 l7 n3
        show Blk _ _ _ _
        unfold Blk at *
        rw [h2]; exact h
      by_cases hlt : k < g.es.length
      · obtain ⟨b', off', rfl, hb', hcc⟩ := hcW.edge (by omega)
        obtain ⟨k0', k1', k2'⟩ := hcc k hlt
        have hbne : b' ≠ bv := by have := (owns_lt HV.out).1; have := hbold.out b' off' rfl (by intro h; rw [h] at hlt; simp at hlt); omega
        have hcl : ∀ o, wr.cell? ⟨b', o, none⟩ = W2.cell? ⟨b', o, none⟩ := fun o => by
          refine World.cell?_of_block ?_
          exact HP.out b' hb' hbne
        have k0 := (hcl _).trans k0'
        have k1 := (hcl _).trans k1'
        have k2 := (hcl _).trans k2'
        have hb'' : b' < wr.heap.size := by omega
        have hst := hid (fun u => valTo_step g k u hlt)
        have hbd := hid (fun u => valTo_bd HK.out k u)
        obtain ⟨h1, h2, h3, h4, h5⟩ := hend.out k hlt
        have hNN := HN.out
        clear hcc k0' k1' k2' hcl hbold hcW
        have hlt' : (k : Int) < (g.es.length : Int) := by omega
        have hk0 : (0 : Int) ≤ (k : Int) := by omega
        generalize g.es[k]?.getD default = x at *
        obtain ⟨xa, xb, xm⟩ := x
        dsimp only at k0 k1 k2 h1 h2 h3 h4 h5
        obtain ⟨A, rfl⟩ := Int.eq_ofNat_of_zero_le h1
        obtain ⟨B, rfl⟩ := Int.eq_ofNat_of_zero_le (show 0 ≤ xb by omega)
        have hA : A < N := by omega
        have hBN : B < N := by omega
        rw [hNN] at h3
        clear hNN
        have hvl := (owns_lt HV.out).2
        have hvb := (owns_lt HV.out).1
        by_cases hab : A = B
        · subst hab
          have hrow : Hid ((vecOf N (valTo g (k + 1))) = (vecOf N (valTo g k))) := by
            show _ = _
            refine vecOf_congr _ _ _ fun u hu => ?_
            rw [hst.out]
            unfold valE
            dsimp only
            simp only [if_true, Int.add_zero]
          clear hst
          go_wp2
          go_roundw
          case rel => exact ⟨k + 1, by omega, by go_num, hid (by rw [hrow.out]; exact HV.out.alloc _), fun j hj hne => (Below.heap_alloc wr _ j (by omega)).trans (HP.out j hj hne), hid (HBr.out.alloc HBr.out.size _), by simp; omega⟩
          case measure => simp [intOf]; omega
        · have hab1 : ¬ ((A : Int) = (B : Int)) := by omega
          have hab2 : ((A : Int) != (B : Int)) = true := by simp; omega
          have hrow : Hid ((vecOf N (valTo g (k + 1))) = ((vecOf N (valTo g k)).set A (valTo g k A + xm)).set B (valTo g k B + xm)) := by
            show _ = _
            rw [vecOf_set, vecOf_set]
            refine vecOf_congr _ _ _ fun u hu => ?_
            rw [hst.out]
            unfold valE
            dsimp only
            rw [if_neg hab1]
            by_cases u1 : u = B
            · subst u1
              rw [if_pos rfl, if_neg hab1, if_pos rfl]; omega
            · rw [if_neg u1]
              have u2 : ¬ ((B : Int) = (u : Int)) := by omega
              by_cases u3 : u = A
              · subst u3
                rw [if_pos rfl, if_pos rfl, if_neg u2]; omega
              · have u4 : ¬ ((A : Int) = (u : Int)) := by omega
                rw [if_neg u3, if_neg u4, if_neg u2]; omega
          have y1 := owns_int HV.out A (by omega)
          rw [vecOf_get _ _ _ (by omega)] at y1
          have y2 := owns_int HV.out B (by omega)
          rw [vecOf_get _ _ _ (by omega)] at y2
          have fz1 := HV.out.frozenAt A
          have fz2 := HV.out.frozenAt B
          have hyA := hbd.out A
          have hyB := hbd.out B
          have hset : Hid (∀ W : World, W.ownsRow W1.heap.size 3 1 (.slice (some ⟨bv, 0, none⟩) N N) N ((vecOf N (valTo g k)).map (Value.int .i64)) →
              ((W.setCell ⟨bv, A, none⟩ (.int .i64 (valTo g k A + xm))).setCell ⟨bv, B, none⟩ (.int .i64 (valTo g k B + xm))).ownsRow W1.heap.size 3 1 (.slice (some ⟨bv, 0, none⟩) N N) N ((vecOf N (valTo g (k + 1))).map (Value.int .i64))) := fun W hW => by
            rw [hrow.out]
            exact owns_set (owns_set hW A _) B _
          generalize valTo g k A = yA at *
          generalize valTo g k B = yB at *
          clear hst hrow hbd
          have wA : IntKind.i64.wrap (yA + xm) = yA + xm := IntWalk.i64_in _ (by omega)
          have wB : IntKind.i64.wrap (yB + xm) = yB + xm := IntWalk.i64_in _ (by omega)
          have g5 := HK7.out.cell 5
          have g7 := HK7.out.lt
          simp only [List.getElem?_toArray, List.getElem?_cons_zero, List.getElem?_cons_succ] at g5
          have hA1 : (A : Int) < (N : Int) := by omega
          have hB1 : (B : Int) < (N : Int) := by omega
          have hB0 : (0 : Int) ≤ (B : Int) := by omega
          go_upto_region 6 with fail
          obtain ⟨W3, hW3⟩ : ∃ W : World, W = wr.alloc (.cells #[.int .i64 A, .int .i64 B, .int .i64 xm] 96) := ⟨_, rfl⟩
          have hB3 : Below wr.heap.size wr W3 := by rw [hW3]; exact (Below.refl _ _).alloc (Nat.le_refl _) _
          have e0 : W3.cell? ⟨wr.heap.size, 0, none⟩ = some (.int .i64 A) := by rw [hW3]; simp
          have e1 : W3.cell? ⟨wr.heap.size, 1, none⟩ = some (.int .i64 B) := by rw [hW3]; simp
          have e2 : W3.cell? ⟨wr.heap.size, 2, none⟩ = some (.int .i64 xm) := by rw [hW3]; simp
          have hl3 : wr.heap.size < W3.heap.size := by rw [hW3]; simp
          rw [← hW3]
          clear hW3
          have p5 := (hB3.cell (p := ⟨b7, 5, none⟩) g7).trans g5
          have p1 := (hB3.cell (p := ⟨bv, A, none⟩) hvl).trans y1
          have p2 := (hB3.cell (p := ⟨bv, B, none⟩) hvl).trans y2
          have pf1 := (hB3.frozen (p := ⟨bv, A, none⟩) hvl).trans fz1
          have pf2 := (hB3.frozen (p := ⟨bv, B, none⟩) hvl).trans fz2
          have hn7 : b7 ≠ bv := n3
          have hne3 : wr.heap.size ≠ bv := by omega
          have hs3 := hB3.size
          let S : World → Prop := fun w' => w'.cell? ⟨b7, 5, none⟩ = some (.slice (some ⟨bv, 0, none⟩) N N) ∧ w'.cell? ⟨wr.heap.size, 0, none⟩ = some (.int .i64 A) ∧ w'.cell? ⟨wr.heap.size, 2, none⟩ = some (.int .i64 xm) ∧ w'.cell? ⟨bv, A, none⟩ = some (.int .i64 yA)
          (refine wp_region_text 10 [0,1,2,3,4,5,6,7,8,9] S (by kernel_rfl) (by kernel_rfl) (by intro _ _ d _ _ h; cases d <;> exact h) ?hS ?_; rotate_left; simp only [List.map_cons, List.map_nil, List.getD_cons_zero, List.getD_cons_succ, List.drop_succ_cons, List.drop_zero])
          case hS => exact ⟨p5, e0, e2, p1⟩
          (repeat ((refine' wpSeq_take rfl _ (by rfl) ?_ ?_; rotate_left; focus (intro w' hS; (try dsimp only at hS); obtain ⟨s1, s2, s3, s4⟩ := hS; go_simp; (first | done | with_reducible rfl)); (try simp only [Act.put, List.setIfInBounds_toArray, List.set_cons_zero, List.set_cons_succ])); (try simp only [Act.put, List.setIfInBounds_toArray, List.set_cons_zero, List.set_cons_succ])))
          refine wpSeq_nil ?_
          clear S
          go_upto_region 7 with fail
          obtain ⟨W4, hW4⟩ : ∃ W : World, W = (W3.setCell ⟨bv, A, none⟩ (.int .i64 (yA + xm))).drew := ⟨_, rfl⟩
          have hoth : ∀ b o, b ≠ bv → W4.cell? ⟨b, o, none⟩ = W3.cell? ⟨b, o, none⟩ := fun b o hne => by
            rw [hW4]
            refine World.cell?_of_block ?_
            exact Below.heap_setCell W3 ⟨bv, A, none⟩ _ b hne
          have t5 := (hoth b7 5 hn7).trans p5
          have t1 := (hoth wr.heap.size 1 hne3).trans e1
          have t2 := (hoth wr.heap.size 2 hne3).trans e2
          have HV3 := owns_below HV.out hB3
          have HV4 := owns_set HV3 A (yA + xm)
          have tB : W4.cell? ⟨bv, B, none⟩ = some (.int .i64 yB) := by
            rw [hW4]
            show (W3.setCell ⟨bv, A, none⟩ (.int .i64 (yA + xm))).cell? ⟨bv, B, none⟩ = _
            go_simp
          have tf : W4.frozen? ⟨bv, B, none⟩ = false := by rw [hW4]; exact HV4.frozenAt B
          have tl : wr.heap.size < W4.heap.size := by rw [hW4]; simpa using hl3
          have tl7 : b7 < W4.heap.size := by omega
          have tlv : bv < W4.heap.size := by omega
          have hfin : Hid (∀ W, (W4.setCell ⟨bv, B, none⟩ (.int .i64 (yB + xm))).drew = W → W.ownsRow W1.heap.size 3 1 (.slice (some ⟨bv, 0, none⟩) N N) N ((vecOf N (valTo g (k + 1))).map (Value.int .i64)) ∧ (∀ j, j < W2.heap.size → j ≠ bv → W.heap[j]? = W2.heap[j]?) ∧ Below W1.heap.size W1 W ∧ W2.heap.size ≤ W.heap.size) := by
            rintro W rfl
            refine ⟨?_, fun j hj hne => ?_, ?_, ?_⟩
            · rw [hW4]; exact hset.out _ HV3
            · rw [hW4]
              refine (Below.heap_setCell _ ⟨bv, B, none⟩ _ j hne).trans ((Below.heap_setCell W3 ⟨bv, A, none⟩ _ j hne).trans ((hB3.block j (by omega)).trans (HP.out j hj hne)))
            · rw [hW4]
              exact ((((HBr.out.trans (hB3.mono HBr.out.size)).setCell hvb _).drew).setCell hvb _).drew
            · have h4 : W4.heap.size = W3.heap.size := by rw [hW4]; simp
              simp; omega
          rw [← hW4]
          clear hW4 hoth HV3 HV4 p5 p1 p2 pf1 pf2 e0 e1 e2
          let S : World → Prop := fun w' => w'.cell? ⟨b7, 5, none⟩ = some (.slice (some ⟨bv, 0, none⟩) N N) ∧ w'.cell? ⟨wr.heap.size, 1, none⟩ = some (.int .i64 B) ∧ w'.cell? ⟨wr.heap.size, 2, none⟩ = some (.int .i64 xm) ∧ w'.cell? ⟨bv, B, none⟩ = some (.int .i64 yB)
          (refine wp_region_text 10 [0,1,2,3,4,5,6,7,8,9] S (by kernel_rfl) (by kernel_rfl) (by intro _ _ d _ _ h; cases d <;> exact h) ?hS ?_; rotate_left; simp only [List.map_cons, List.map_nil, List.getD_cons_zero, List.getD_cons_succ, List.drop_succ_cons, List.drop_zero])
          case hS => exact ⟨t5, t1, t2, tB⟩
          (repeat ((refine' wpSeq_take rfl _ (by rfl) ?_ ?_; rotate_left; focus (intro w' hS; (try dsimp only at hS); obtain ⟨s1, s2, s3, s4⟩ := hS; go_simp; (first | done | with_reducible rfl)); (try simp only [Act.put, List.setIfInBounds_toArray, List.set_cons_zero, List.set_cons_succ])); (try simp only [Act.put, List.setIfInBounds_toArray, List.set_cons_zero, List.set_cons_succ])))
          refine wpSeq_nil ?_
          clear S
          go_wp2
          go_roundw
          case rel =>
            obtain ⟨q1, q2, q3, q4⟩ := hfin.out _ rfl
            exact ⟨k + 1, by omega, by go_num, q1, q2, q3, q4⟩
          case measure => simp [intOf]; omega
      · obtain rfl : k = g.es.length := by omega
        have g0 := HK7.out.cell 0
        have g1 := HK7.out.cell 1
        have g2 := HK7.out.cell 2
        have g3 := HK7.out.cell 3
        have g4 := HK7.out.cell 4
        have g5 := HK7.out.cell 5
        have g6 := HK7.out.lt
        simp only [List.getElem?_toArray, List.getElem?_cons_zero, List.getElem?_cons_succ] at g0 g1 g2 g3 g4 g5
        have HR6 : Hid (Blk wr (w.heap.size + 1) #[.int .i64 0, .slice none 0 0, .int .i64 0, .slice none 0 0, .slice none 0 0, .slice none 0 0] 79) := by
          have h := HB6.out
          have h2 := HP.out (w.heap.size + 1) (by omega) (by have := (owns_lt HV.out).1; omega)
          show Blk _ _ _ _
          unfold Blk at *
          rw [h2]; exact h
        have q0 := HR6.out.cell 0
        have q1 := HR6.out.cell 1
        have q2 := HR6.out.cell 2
        have q3 := HR6.out.cell 3
        have q4 := HR6.out.cell 4
        have q5 := HR6.out.cell 5
        have q6 := HR6.out.lt
        have q7 := fun i => HR6.out.frozen i
        simp only [List.getElem?_toArray, List.getElem?_cons_zero, List.getElem?_cons_succ] at q0 q1 q2 q3 q4 q5
        have hbvb := (owns_lt HV.out).1
        have hKB : KeptB W2 wr (fun j => j = bv) := ⟨hsr, fun j hj hne => HP.out j hj hne⟩
        have oL := owns_keptB HOL.out hKB (fun j hj => by obtain rfl := Option.some.inj hj; exact n5)
        have oT := owns_keptB HOT.out hKB (fun j hj => by obtain rfl := Option.some.inj hj; exact n6)
        have oV := HV.out
        rw [vecOf_congr N (valTo g g.es.length) (fun v => valence g v) (fun u _ => valTo_end HK.out u)] at oV
        rw [show ds = vecOf N (dOf ds) from by rw [← hl]; exact (vecOf_self ds).symm] at oL
        have HFL := hid oL
        have HFT := hid oT
        have HFV := hid oV
        have lbl := (owns_lt oL).1
        have lbt := (owns_lt oT).1
        have hne1 : bl ≠ w.heap.size + 1 := by omega
        have hne2 : bt ≠ w.heap.size + 1 := by omega
        have hne3 : bv ≠ w.heap.size + 1 := by omega
        clear oL oT oV hKB
        go_wp2
        refine bodyPost_ret (results_cell1 rfl rfl (load_state (v0 := .int .i64 g.n) (v1 := .slice a g.es.length cap) (v2 := .int .i64 q) (v3 := .slice (some ⟨bl, 0, none⟩) N cl) (v4 := .slice (some ⟨bt, 0, none⟩) N N) (v5 := .slice (some ⟨bv, 0, none⟩) N N) ?_)) rfl ?_
        · exact ((((((HR6.out.set 0 _).set 1 _).set 2 _).set 3 _).set 4 _).set 5 _)
        · refine ⟨?_, bl, cl, bt, bv, rfl, ?_, ?_, ?_, n4, n5, n6⟩
          · have h := HBW.out.trans (HBr.out.mono (by omega))
            exact (((((h.setCell (by simp) _).setCell (by simp) _).setCell (by simp) _).setCell (by simp) _).setCell (by simp) _).setCell (by simp) _
          · exact owns_base (owns_other (owns_other (owns_other (owns_other (owns_other (owns_other HFL.out hne1 0 _) hne1 1 _) hne1 2 _) hne1 3 _) hne1 4 _) hne1 5 _) (by omega)
          · exact owns_base (owns_other (owns_other (owns_other (owns_other (owns_other (owns_other HFT.out hne2 0 _) hne2 1 _) hne2 2 _) hne2 3 _) hne2 4 _) hne2 5 _) (by omega)
          · exact owns_base (owns_other (owns_other (owns_other (owns_other (owns_other (owns_other HFV.out hne3 0 _) hne3 1 _) hne3 2 _) hne3 3 _) hne3 4 _) hne3 5 _) (by omega)

end Go.Proofs.YtbjoblkigbphhaaGreat
