/-
  The board of the parallel game in memory; contract: of. Contract of the parallel game's board: of.
-/
import Derived.Test.YtbjoblkigbphhaaGreatP35
namespace Go.Proofs.YtbjoblkigbphhaaGreat
set_option linter.unusedVariables false
open Go.RowKit

/-- A row of nil slices, as a block. -/
def nilR (N : Nat) : Array Value := (List.replicate N (Value.slice none 0 0)).toArray
theorem run_nilR {P : Program} (t e : TypeId) (ht : P.underlying t = some (.slice e)) (hinfo : (P.info? e).map (fun i => (i.zero, i.size, i.bytes)) = some (some (.slice none 0 0), 1, 24))
    (n : Int) (N : Nat) (h1 : (N : Int) ≤ n) (h2 : n ≤ (N : Int)) (h3 : N ≤ 1000) (w : World) :
    (Instr.makeSlice t (.int .i64 n) (.int .i64 n)).run P w = .ok (.slice (some ⟨w.heap.size, 0, none⟩) N N) (w.alloc (.cells (nilR N) e)) := by
  obtain ⟨i, hi, hz, hs, hby⟩ := info_parts hinfo
  obtain rfl : n = (N : Int) := by omega
  have h := run_make (P := P) w t e i (.slice none 0 0) ht hi hz .i64 .i64 N N (by omega) (Int.le_refl _) (by rw [hby]; omega) (by omega)
  rw [hs] at h
  simp only [Int.toNat_natCast, Nat.mul_one] at h
  have e1 : madeCells (Value.slice none 0 0).cells N = nilR N := by
    apply Array.toList_inj.1
    rw [show (Value.slice none 0 0).cells = #[Value.slice none 0 0] from rfl, toList_madeCells_one]; simp [nilR]
  rw [e1] at h
  exact h

/-- The board while its rows are made: k of them are. -/
structure Bh (w : World) (base b bv go : Nat) (bs : Nat → Nat) (q : Int) (N k : Nat) : Prop where
  blk : Blk w b #[.slice (some ⟨bv, 0, none⟩) N N, .slice (some ⟨go, 0, none⟩) N N, .int .i64 q] 145
  vals : w.ownsRow base 3 1 (.slice (some ⟨bv, 0, none⟩) N N) N ((vecOf N fun _ => 0).map (Value.int .i64))
  outer : w.ownsRow base 25 1 (.slice (some ⟨go, 0, none⟩) N N) N ((List.range N).map fun i => if i < k then Value.slice (some ⟨bs i, 0, none⟩) N N else .slice none 0 0)
  inj : ∀ i j, i < k → j < k → bs i = bs j → i = j
  row : ∀ i, i < k → w.ownsRow base 3 1 (.slice (some ⟨bs i, 0, none⟩) N N) N ((vecOf N fun _ => 0).map (Value.int .i64))
  hb : base ≤ b
  ne : ∀ i, i < k → bs i ≠ bv
/-- The board in memory. -/
structure Bd (w : World) (base b bv go : Nat) (bs : Nat → Nat) (q : Int) (N : Nat) (V : Nat → Int) (R : Nat → Nat → Int) : Prop where
  blk : Blk w b #[.slice (some ⟨bv, 0, none⟩) N N, .slice (some ⟨go, 0, none⟩) N N, .int .i64 q] 145
  vals : w.ownsRow base 3 1 (.slice (some ⟨bv, 0, none⟩) N N) N ((vecOf N V).map (Value.int .i64))
  rows : OwnM 25 3 w base (.slice (some ⟨go, 0, none⟩) N N) N N bs R
  hb : base ≤ b
  ne : ∀ i, i < N → bs i ≠ bv
section
variable {w w' : World} {base b bv go : Nat} {bs : Nat → Nat} {q : Int} {N k : Nat} {V : Nat → Int} {R : Nat → Nat → Int}
theorem Bh.mono (h : Bh w base b bv go bs q N k) (hB : Below w.heap.size w w') : Bh w' base b bv go bs q N k :=
  ⟨h.blk.below hB, owns_below h.vals hB, owns_below h.outer hB, h.inj, fun i hi => owns_below (h.row i hi) hB, h.hb, h.ne⟩
theorem Bh.done (h : Bh w base b bv go bs q N N) : Bd w base b bv go bs q N (fun _ => 0) (fun _ _ => 0) := by
  refine ⟨h.blk, h.vals, ⟨?_, h.inj, h.row⟩, h.hb, h.ne⟩
  have := h.outer
  rwa [List.map_congr_left (g := fun i => Value.slice (some ⟨bs i, 0, none⟩) N N) (fun i hi => by rw [if_pos (List.mem_range.1 hi)])] at this
theorem Bh.next (h : Bh w base b bv go bs q N k) (hk : k < N) (hN : N ≤ 1000) (hs : base ≤ w.heap.size) :
    Bh ((w.alloc (.cells (zer N) 3)).setCell ⟨go, k, none⟩ (.slice (some ⟨w.heap.size, 0, none⟩) N N)) base b bv go (fun i => if i < k then bs i else w.heap.size) q N (k + 1) := by
  have h1 := h.mono ((Below.refl _ _).alloc (Nat.le_refl _) (.cells (zer N) 3))
  have hlt : ∀ i, i < k → bs i < w.heap.size := fun i hi => (owns_lt (h.row i hi)).2
  have hv := (owns_lt h.vals).2
  have n1 : go ≠ b := owns_blk h.blk h.outer (by decide) _ rfl
  have n2 : bv ≠ go := fun e => owns_differ h.outer h.vals (by decide) e.symm
  have hg := (owns_lt h.outer).2
  have hz : (w.alloc (.cells (zer N) 3)).ownsRow base 3 1 (.slice (some ⟨w.heap.size, 0, none⟩) N N) N ((vecOf N fun _ => 0).map (Value.int .i64)) := ownZ rfl hs hN
  refine ⟨h1.blk.other (fun e => n1 e.symm) _ _, owns_other h1.vals n2 _ _, ?_, fun i j hi hj e => ?_, fun i hi => ?_, h.hb, fun i hi => ?_⟩
  · have := (h1.outer.stored k (.slice (some ⟨w.heap.size, 0, none⟩) N N)).1
    refine Eq.mp (congrArg _ ?_) this
    apply List.ext_getElem?
    intro j
    rw [List.getElem?_set]
    by_cases hj : j < N
    · by_cases e : k = j
      · subst e; simp [hj]
      · rw [if_neg e]
        simp only [List.getElem?_map, List.getElem?_range hj, Option.map_some]
        by_cases h2 : j < k
        · rw [if_pos h2, if_pos (by omega)]; simp [h2]
        · rw [if_neg h2, if_neg (by omega)]
    · rw [if_neg (by omega), List.getElem?_eq_none (by simp; omega), List.getElem?_eq_none (by simp; omega)]
  · by_cases h2 : i < k
    · by_cases h3 : j < k
      · rw [if_pos h2, if_pos h3] at e; exact h.inj i j h2 h3 e
      · rw [if_pos h2, if_neg h3] at e; have := hlt i h2; omega
    · by_cases h3 : j < k
      · rw [if_neg h2, if_pos h3] at e; have := hlt j h3; omega
      · omega
  · by_cases h2 : i < k
    · rw [if_pos h2]
      exact owns_other (h1.row i h2) (fun e => by
        have h5 := h.row i h2
        rw [e] at h5
        exact owns_differ h.outer h5 (by decide) rfl) _ _
    · rw [if_neg h2]
      exact owns_other hz (by omega) _ _
  · by_cases h2 : i < k
    · rw [if_pos h2]; exact h.ne i h2
    · rw [if_neg h2]; omega
theorem Bd.mono (h : Bd w base b bv go bs q N V R) (hB : Below w.heap.size w w') : Bd w' base b bv go bs q N V R :=
  ⟨h.blk.below hB, owns_below h.vals hB, h.rows.below hB, h.hb, h.ne⟩
theorem Bd.cells (h : Bd w base b bv go bs q N V R) : w.cell? ⟨b, 0, none⟩ = some (.slice (some ⟨bv, 0, none⟩) N N) ∧ w.cell? ⟨b, 1, none⟩ = some (.slice (some ⟨go, 0, none⟩) N N) ∧ w.cell? ⟨b, 2, none⟩ = some (.int .i64 q) := by
  refine ⟨?_, ?_, ?_⟩ <;> (rw [h.blk.cell]; simp)
theorem Bd.valAt (h : Bd w base b bv go bs q N V R) (u : Nat) (hu : u < N) : w.cell? ⟨bv, u, none⟩ = some (.int .i64 (V u)) := by
  rw [owns_int h.vals u hu, vecOf_get _ _ _ hu]
theorem Bd.setV (h : Bd w base b bv go bs q N V R) (u : Nat) (x : Int) : Bd (w.setCell ⟨bv, u, none⟩ (.int .i64 x)) base b bv go bs q N (fun i => if i = u then x else V i) R := by
  have n1 : bv ≠ b := owns_blk h.blk h.vals (by decide) _ rfl
  refine ⟨h.blk.other n1.symm u _, ?_, h.rows.kept (grown_set w bv u _) (.inr (own_ne h.rows.outer h.vals)) (fun i hi e => h.ne i hi (Option.some.inj e).symm), h.hb, h.ne⟩
  have := owns_set h.vals u x
  rwa [vecOf_set] at this
theorem Bd.setR (h : Bd w base b bv go bs q N V R) (i j : Nat) (hi : i < N) (x : Int) : Bd (w.setCell ⟨bs i, j, none⟩ (.int .i64 x)) base b bv go bs q N V (fun i' j' => if i' = i ∧ j' = j then x else R i' j') := by
  have n1 : bs i ≠ b := owns_blk h.blk (h.rows.row i hi) (by decide) _ rfl
  exact ⟨h.blk.other n1.symm j _, owns_other h.vals (h.ne i hi).symm j _, h.rows.set (by decide) i j hi x, h.hb, h.ne⟩
theorem Bd.congr {R' : Nat → Nat → Int} {V' : Nat → Int} (h : Bd w base b bv go bs q N V R) (hR : ∀ i j, i < N → j < N → R i j = R' i j) (hV : ∀ u, u < N → V u = V' u) : Bd w base b bv go bs q N V' R' := by
  refine ⟨h.blk, ?_, h.rows.congr R' hR, h.hb, h.ne⟩
  rw [← vecOf_congr N V V' hV]; exact h.vals
/-- The board, wherever its blocks have not turned. -/
theorem Bd.kept (h : Bd w base b bv go bs q N V R) {p : Nat → Prop} (hk : KeptB w w' p) (hb : ¬ p b) (hv : ¬ p bv) (hg : ¬ p go) (hr : ∀ i, i < N → ¬ p (bs i)) : Bd w' base b bv go bs q N V R :=
  ⟨by have := hk.2 b h.blk.lt hb; unfold Blk; rw [this]; exact h.blk, owns_keptB h.vals hk (fun k e => Option.some.inj e ▸ hv), ⟨owns_keptB h.rows.outer hk (fun k e => Option.some.inj e ▸ hg), h.rows.inj, fun i hi => owns_keptB (h.rows.row i hi) hk (fun k e => Option.some.inj e ▸ hr i hi)⟩, h.hb, h.ne⟩
end

/-- What edge k = (A, B) of weight m has laid behind j of its two parts. -/
def vPart (V : Nat → Int) (A B : Nat) (m : Int) (j u : Nat) : Int := V u + (if 1 ≤ j ∧ u = A then m else 0) + (if 2 ≤ j ∧ u = B then m else 0)
def rPart (R : Nat → Nat → Int) (A B : Nat) (m : Int) (j v u : Nat) : Int := if 1 ≤ j ∧ v = A ∧ u = B then m else if 2 ≤ j ∧ v = B ∧ u = A then m else R v u

theorem part_zero (V : Nat → Int) (R : Nat → Nat → Int) (A B : Nat) (m : Int) : (∀ u, V u = vPart V A B m 0 u) ∧ ∀ v u, R v u = rPart R A B m 0 v u := by
  constructor
  · intro u; unfold vPart; simp
  · intro v u; unfold rPart; simp
theorem part_next (V : Nat → Int) (R : Nat → Nat → Int) (A B : Nat) (m : Int) (hne : A ≠ B) (i P0 P1 : Nat) (h : i = 0 ∧ P0 = A ∧ P1 = B ∨ i = 1 ∧ P0 = B ∧ P1 = A) :
    (∀ u, (if u = P0 then vPart V A B m i P0 + m else vPart V A B m i u) = vPart V A B m (i + 1) u) ∧ ∀ v u, (if v = P0 ∧ u = P1 then m else rPart R A B m i v u) = rPart R A B m (i + 1) v u := by
  rcases h with ⟨rfl, rfl, rfl⟩ | ⟨rfl, rfl, rfl⟩ <;> (refine ⟨fun u => ?_, fun v u => ?_⟩ <;> (simp only [vPart, rPart] <;> grind))
theorem part_end {g : G} (j : Nat) (A B : Nat) (m : Int) (hne : A ≠ B) (hV : ∀ u, valTo g (j + 1) u = valTo g j u + valE u ⟨A, B, m⟩) (hR : ∀ v u, rowTo g v (j + 1) u = rowTo g v j u + rowE v u ⟨A, B, m⟩) (h0 : rowTo g A j B = 0 ∧ rowTo g B j A = 0) :
    (∀ u, vPart (fun u => valTo g j u) A B m 2 u = valTo g (j + 1) u) ∧ ∀ v u, rPart (fun v u => rowTo g v j u) A B m 2 v u = rowTo g v (j + 1) u := by
  have hcast : ∀ x y : Nat, ((x : Int) = (y : Int)) = (x = y) := fun x y => propext Int.ofNat_inj
  constructor
  · intro u
    rw [hV]
    unfold vPart valE
    simp only [hcast, hne, if_false]
    by_cases h1 : u = A
    · subst h1; simp [hne, Ne.symm hne]
    · by_cases h2 : u = B
      · subst h2; simp [h1, Ne.symm h1]
      · simp [h1, h2, Ne.symm h1, Ne.symm h2]
  · intro v u
    rw [hR]
    unfold rPart rowE
    simp only [hcast, hne, if_false]
    by_cases h1 : v = A
    · subst h1
      by_cases h2 : u = B
      · subst h2; simp [h0.1]
      · simp [h2, Ne.symm h2, hne]
    · by_cases h2 : v = B
      · subst h2
        by_cases h3 : u = A
        · subst h3; simp [h1, Ne.symm h1, h0.2]
        · simp [h1, h3, Ne.symm h1, Ne.symm h3]
      · simp [h1, h2, Ne.symm h1, Ne.symm h2]

theorem rowTo_fresh {g : G} (h : Gok g) (k : Nat) (hk : k < g.es.length) (A B : Nat) (hA : (g.es[k]?.getD default).a = A) (hB : (g.es[k]?.getD default).b = B) (hne : A ≠ B) : rowTo g A k B = 0 ∧ rowTo g B k A = 0 := by
  have hx : ∀ x ∈ g.es.take k, ¬ (x.a = A ∧ x.b = B) ∧ ¬ (x.a = B ∧ x.b = A) := fun x hx => by
    obtain ⟨i, hi, rfl⟩ := List.mem_iff_getElem.1 hx
    rw [List.length_take] at hi
    rw [List.getElem_take]
    have h1 := h.code_lt i k (by omega) hk
    have h2 := h.ends i (by omega)
    have h3 := h.ends k hk
    rw [hA, hB] at h1 h3
    rw [List.getElem?_eq_getElem (by omega), Option.getD_some] at h1 h2
    constructor
    · rintro ⟨e1, e2⟩; omega
    · rintro ⟨e1, e2⟩; omega
  unfold rowTo
  constructor
  · rw [sumE_congr _ (fun _ => 0) _ fun x hx' => ?_, sumE_zero]
    have := hx x hx'
    unfold rowE
    grind
  · rw [sumE_congr _ (fun _ => 0) _ fun x hx' => ?_, sumE_zero]
    have := hx x hx'
    unfold rowE
    grind

/-- The board is handed back. -/
def RetBd (w : World) (g : G) (q : Int) (N : Nat) (e : Ending) (w' : World) : Prop :=
  ∃ b bv go bs, e = .returned (.pointer (some ⟨b, 0, none⟩)) ∧ Bd w' w.heap.size b bv go bs q N (fun v => valence g v) (rowsF g) ∧ Below w.heap.size w w'

theorem bh_box {wb W : World} {N bv go b : Nat} {q : Int} (hV : wb.ownsRow W.heap.size 3 1 (.slice (some ⟨bv, 0, none⟩) N N) N ((vecOf N fun _ => 0).map (Value.int .i64)))
    (hO : wb.ownsRow W.heap.size 25 1 (.slice (some ⟨go, 0, none⟩) N N) N (nilR N).toList) (hx : b = wb.heap.size) (hB : Below W.heap.size W wb) :
    ∃ b' bv' go', (Value.pointer (some ⟨b, 0, none⟩)) = .pointer (some ⟨b', 0, none⟩) ∧
      Bh (wb.alloc (.cells #[.slice (some ⟨bv, 0, none⟩) N N, .slice (some ⟨go, 0, none⟩) N N, .int .i64 q] 145)) W.heap.size b' bv' go' (fun _ => 0) q N 0 ∧
      Below W.heap.size W (wb.alloc (.cells #[.slice (some ⟨bv, 0, none⟩) N N, .slice (some ⟨go, 0, none⟩) N N, .int .i64 q] 145)) := by
  subst hx
  refine ⟨wb.heap.size, bv, go, rfl, ⟨Blk.new _ _ _, hV.alloc _, ?_, fun i j hi => by omega, fun i hi => by omega, hB.size, fun i hi => by omega⟩, hB.alloc hB.size _⟩
  have := hO.alloc (.cells #[.slice (some ⟨bv, 0, none⟩) N N, .slice (some ⟨go, 0, none⟩) N N, .int .i64 q] 145)
  refine Eq.mp (congrArg _ ?_) this
  apply List.ext_getElem
  · simp [nilR]
  · intro i h1 h2; simp [nilR]
theorem bh_boxD {wb W : World} {N bv go b : Nat} {q : Int} (hV : wb.ownsRow W.heap.size 3 1 (.slice (some ⟨bv, 0, none⟩) N N) N ((vecOf N fun _ => 0).map (Value.int .i64)))
    (hO : wb.ownsRow W.heap.size 25 1 (.slice (some ⟨go, 0, none⟩) N N) N (nilR N).toList) (hx : b = wb.heap.size) (hB : Below W.heap.size W wb) :
    ∃ b' bv' go', (Value.pointer (some ⟨b, 0, none⟩)) = .pointer (some ⟨b', 0, none⟩) ∧
      Bh (wb.alloc (.cells #[.slice (some ⟨bv, 0, none⟩) N N, .slice (some ⟨go, 0, none⟩) N N, .int .i64 q] 145)).drew W.heap.size b' bv' go' (fun _ => 0) q N 0 ∧
      Below W.heap.size W (wb.alloc (.cells #[.slice (some ⟨bv, 0, none⟩) N N, .slice (some ⟨go, 0, none⟩) N N, .int .i64 q] 145)).drew := by
  obtain ⟨b', bv', go', e, h1, h2⟩ := bh_box (q := q) hV hO hx hB
  exact ⟨b', bv', go', e, h1.mono (Below.drew (Below.refl _ _)), h2.drew⟩
theorem owns_nilR {w : World} {B base N : Nat} {e : TypeId} (h : B = w.heap.size) (hb : base ≤ w.heap.size) (hN : N ≤ 1000) : (w.alloc (.cells (nilR N) e)).ownsRow base e 1 (.slice (some ⟨B, 0, none⟩) N N) N (nilR N).toList := by
  subst h
  exact ⟨by simp [nilR], .inr ⟨w.heap.size, N, nilR N, rfl, hb, heap_new _ _, Nat.le_refl _, by unfold maxLen; omega, by simp [nilR], List.take_of_length_le (by simp [nilR])⟩⟩

end Go.Proofs.YtbjoblkigbphhaaGreat

namespace Go.Proofs.YtbjoblkigbphhaaGreat
set_option linter.unusedVariables false
open Go.RowKit

set_option maxRecDepth 100000 in
set_option maxHeartbeats 20000000 in
theorem q_of (g : G) (gv : Value) (N : Nat) (hN1 : (N : Int) ≤ g.n) (hN2 : g.n ≤ (N : Int)) (q : Int) (w : World) (hg : GrR w gv g) (hk : Gok g) :
    Calls Tryz.prog 63 #[gv, .int .i64 q] w (RetBd w g q N) := by
  have hg' := hg
  obtain ⟨ev0, rfl, a, cap, rfl, hcap, hcm, hlen, hc⟩ := hg'
  obtain ⟨hn1, hn2⟩ := hk.n
  have hW : Below w.heap.size w (w.alloc (.cells #[.int .i64 g.n, .slice a g.es.length cap] 24)) := by go_grown
  go_enter Tryz.func63, Tryz.ntmps63
  go_upto_region 1 with fail
  obtain ⟨W1, hW1⟩ : ∃ W : World, W = w.alloc (.cells #[.int .i64 g.n, .slice a g.es.length cap] 24) := ⟨_, rfl⟩
  rw [← hW1]
  have f1 : W1.cell? ⟨w.heap.size, 0, none⟩ = some (.int .i64 g.n) := by rw [hW1]; simp
  have f2 : W1.cell? ⟨w.heap.size, 1, none⟩ = some (.slice a g.es.length cap) := by rw [hW1]; simp
  have hBw : Below w.heap.size w W1 := by rw [hW1]; exact hW
  have hga : w.heap.size + 1 ≤ W1.heap.size := by rw [hW1]; simp
  have HGA := hid hga
  clear hW1 hW
  have hmk := run_zer (P := Tryz.prog) 25 3 Tryz.underInts Tryz.infoInt g.n N hN1 hN2 (by omega)
  have hmk2 := run_nilR (P := Tryz.prog) 59 25 Tryz.underMat Tryz.infoRow g.n N hN1 hN2 (by omega)
  go_cut [5] (fun s5 W2 => ∃ b bv go, s5 = .pointer (some ⟨b, 0, none⟩) ∧ Bh W2 W1.heap.size b bv go (fun _ => 0) q N 0 ∧ Below W1.heap.size W1 W2)
  case first =>
    have hN1000 : N ≤ 1000 := by omega
    have h0 : Below W1.heap.size W1 W1.drew := below_dN (Below.refl _ _) 1
    have hRd : Hid (∀ W', Below W1.heap.size W1 W' → W'.cell? ⟨w.heap.size, 0, none⟩ = some (.int .i64 g.n)) := fun W' h => (h.cell (p := ⟨w.heap.size, 0, none⟩) (by have := HGA.out; dsimp only; omega)).trans f1
    clear hga
    go_region_held3 (fun w' => w'.cell? ⟨w.heap.size, 0, none⟩ = some (.int .i64 g.n))
      ((refine hRd.out _ ?_; (repeat (first | with_reducible assumption | with_reducible exact Below.refl _ _ | with_reducible refine balloc ?_ _ | with_reducible refine Below.drew ?_))))
      (fail)
    all_goals
      go_wp2_with fail
      go_meet
      refine bh_boxD (wb := _) (N := N) ?_ ?_ ?_ ?_
      · (repeat (first | ((with_reducible refine ownZ ?_ ?_ hN1000) <;> (first | (with_reducible rfl) | omega | (simp only [World.size_alloc]; done) | (simp only [World.size_alloc]; omega))) | (with_reducible refine World.ownsRow.alloc ?_ _) | (with_reducible refine World.ownsRow.drew ?_)))
      · (repeat (first | ((with_reducible refine owns_nilR ?_ ?_ hN1000) <;> (first | (with_reducible rfl) | omega | (simp only [World.size_alloc]; done) | (simp only [World.size_alloc]; omega))) | (with_reducible refine World.ownsRow.alloc ?_ _) | (with_reducible refine World.ownsRow.drew ?_)))
      · (first | (with_reducible rfl) | omega | (simp only [World.size_alloc]; done) | (simp only [World.size_alloc, World.size_drew]; omega))
      · (repeat (first | (with_reducible assumption) | (with_reducible exact Below.refl _ _) | (with_reducible refine balloc ?_ _) | (with_reducible refine Below.drew ?_)))
  case rest =>
    obtain ⟨b, bv, go, rfl, hP, hB2⟩ := hcut
    obtain ⟨W2, rfl⟩ : ∃ W : World, W = wc := ⟨_, rfl⟩
    have hgn := hid (fun (wr : World) (h : Below W1.heap.size W1 wr) => (h.cell (p := ⟨w.heap.size, 0, none⟩) (by have := HGA.out; dsimp only; omega)).trans f1)
    have hge := hid (fun (wr : World) (h : Below W1.heap.size W1 wr) => (h.cell (p := ⟨w.heap.size, 1, none⟩) (by have := HGA.out; dsimp only; omega)).trans f2)
    have HCC := hid (hc.below hBw)
    have HBW := hid hBw
    have HK := hid hk
    have HP0 := hid hP
    have HB0 := hid hB2
    have l0 := hP.blk.lt
    have z0 : W2.cell? ⟨b, 1, none⟩ = some (.slice (some ⟨go, 0, none⟩) N N) := by rw [hP.blk.cell]; simp
    clear hP hB2 hc hg hBw hk hga hmk2
    go_wp2
    go_loopw [25] (fun i wr => ∃ (k : Nat) (bs : Nat → Nat), k ≤ N ∧ i = .int .i64 k ∧ Hid (Bh wr W1.heap.size b bv go bs q N k) ∧ Hid (Below W1.heap.size W1 wr)) (fun i _ => N - (intOf i).toNat)
    case atStart => exact ⟨0, _, Nat.zero_le _, rfl, HP0, HB0⟩
    case round =>
      clear HP0 HB0 z0 l0
      obtain ⟨k, bs, hkN, rfl, HP, HB⟩ := hrel
      obtain ⟨W3, rfl⟩ : ∃ W : World, W = wr := ⟨_, rfl⟩
      have hg3 := hgn.out W3 HB.out
      have hb3 := HB.out.size
      by_cases hlt : k < N
      · have z1 : W3.cell? ⟨b, 1, none⟩ = some (.slice (some ⟨go, 0, none⟩) N N) := by rw [HP.out.blk.cell]; simp
        have l0 := HP.out.blk.lt
        have lg : w.heap.size < W3.heap.size := by have := HGA.out; omega
        have lo := (owns_lt HP.out.outer).2
        have hlt' : (k : Int) < (N : Int) := by omega
        have hk0 : (0 : Int) ≤ (k : Int) := by omega
        have HPN := hid ((HP.out.mono (Below.drew (Below.refl _ _))).next hlt (by omega) (by exact hb3))
        have hca : (W3.drew.alloc (.cells (zer N) 3)).frozen? ⟨go, k, none⟩ = false := (HP.out.mono ((Below.refl _ _).drew.alloc (Nat.le_refl _) (.cells (zer N) 3))).outer.frozenAt k
        have HGO : Hid (W1.heap.size ≤ go) := (owns_lt HP.out.outer).1
        obtain ⟨u0, hu0⟩ : ∃ u, W3.cell? ⟨go, k, none⟩ = some u := by
          rw [HP.out.outer.cellAt k (by omega)]
          exact ⟨_, List.getElem?_eq_getElem (by simp; omega)⟩
        go_wp2_with fail
        let S : World → Prop := fun w' => w'.cell? ⟨b, 1, none⟩ = some (.slice (some ⟨go, 0, none⟩) N N) ∧ w'.cell? ⟨w.heap.size, 0, none⟩ = some (.int .i64 g.n)
        (refine wp_region_text 9 [0,1,2,3,4,5,6,7,8] S (by kernel_rfl) (by kernel_rfl) (by intro _ _ d _ _ h; cases d <;> exact h) ?hS ?_; rotate_left; simp only [List.map_cons, List.map_nil, List.getD_cons_zero, List.getD_cons_succ, List.drop_succ_cons, List.drop_zero])
        case hS => exact ⟨z1, hg3⟩
        (repeat ((refine' wpSeq_take rfl _ (by rfl) ?_ ?_; rotate_left; focus (intro w' hS; (try dsimp only at hS); obtain ⟨s1, s2⟩ := hS; go_simp; (first | done | with_reducible rfl)); (try simp only [Act.put, List.setIfInBounds_toArray, List.set_cons_zero, List.set_cons_succ])); (try simp only [Act.put, List.setIfInBounds_toArray, List.set_cons_zero, List.set_cons_succ])))
        have k1 : Below W3.heap.size W3 (W3.drew.alloc (.cells (zer N) 3)) := (Below.refl _ _).drew.alloc (Nat.le_refl _) _
        have hS1 : S (W3.drew.alloc (.cells (zer N) 3)) := ⟨(k1.cell (p := ⟨b, 1, none⟩) l0).trans z1, (k1.cell (p := ⟨w.heap.size, 0, none⟩) lg).trans hg3⟩
        refine wpSeq_call rfl (by rfl) (fun K hK => ?_)
        go_simp
        refine hK _ _ hS1 ?_
        clear hK K
        (repeat ((refine' wpSeq_take rfl _ (by rfl) ?_ ?_; rotate_left; focus (intro w' hS; (try dsimp only at hS); obtain ⟨s1, s2⟩ := hS; go_simp; (first | done | with_reducible rfl)); (try simp only [Act.put, List.setIfInBounds_toArray, List.set_cons_zero, List.set_cons_succ])); (try simp only [Act.put, List.setIfInBounds_toArray, List.set_cons_zero, List.set_cons_succ])))
        refine wpSeq_nil ?_
        have hu1 := (k1.cell (p := ⟨go, k, none⟩) lo).trans hu0
        have lo2 : go < (W3.drew.alloc (.cells (zer N) 3)).heap.size := Nat.lt_of_lt_of_le lo k1.size
        have HBN : Hid (Below W1.heap.size W1 ((W3.drew.alloc (.cells (zer N) 3)).setCell ⟨go, k, none⟩ (.slice (some ⟨W3.heap.size, 0, none⟩) N N))) := (HB.out.trans (k1.mono hb3)).setCell (by exact HGO.out) _
        obtain ⟨W4, hW4⟩ : ∃ W : World, W = W3.drew.alloc (.cells (zer N) 3) := ⟨_, rfl⟩
        have HPN : Hid (Bh (W4.setCell ⟨go, k, none⟩ (.slice (some ⟨W3.heap.size, 0, none⟩) N N)) W1.heap.size b bv go (fun i => if i < k then bs i else W3.heap.size) q N (k + 1)) := by rw [hW4]; exact HPN
        change wpList _ _ _ _ _ (W3.drew.alloc (.cells (zer N) 3))
        (try simp only [Act.put, List.setIfInBounds_toArray, List.set_cons_zero, List.set_cons_succ])
        rw [← hW4] at hu1 lo2 hca HBN ⊢
        clear S hS1 k1 z1 hg3 hu0 hW4
        go_wp2_with fail
        exact ⟨⟨k + 1, _, by omega, by simp, HPN, HBN⟩, by simp [intOf]; omega⟩
      · obtain rfl : k = N := by omega
        have HD0 : Hid (Bd W3 W1.heap.size b bv go bs q k (fun u => valTo g 0 u) (fun v u => rowTo g v 0 u)) := HP.out.done.congr (fun i j _ _ => (rowTo_zero _ _ _).symm) (fun u _ => (valTo_zero _ _).symm)
        have hg4 := hge.out W3 HB.out
        clear HP hg3 hmk
        go_wp2_with fail
        go_loopw [41] (fun i wr => ∃ j : Nat, j ≤ g.es.length ∧ i = .int .i64 j ∧ Hid (Bd wr W1.heap.size b bv go bs q k (fun u => valTo g j u) (fun v u => rowTo g v j u)) ∧ Hid (Below W1.heap.size W1 wr)) (fun i _ => g.es.length - (intOf i).toNat)
        case atStart => exact ⟨0, Nat.zero_le _, rfl, HD0, HB⟩
        case round =>
          clear HD0 HB hg4 hb3
          obtain ⟨j, hjn, rfl, HD, HB⟩ := hrel
          obtain ⟨W5, rfl⟩ : ∃ W : World, W = wr := ⟨_, rfl⟩
          by_cases hlt : j < g.es.length
          · obtain ⟨ba, off, rfl, hba, hx⟩ := (HCC.out.below HB.out).edge (by omega)
            obtain ⟨x1, x2, x3⟩ := hx j hlt
            obtain ⟨y1, y2, y3, y4, y5⟩ := HK.out.ends j hlt
            have HSR := hid (fun v u => rowTo_step g v j u hlt)
            have HSV := hid (fun u => valTo_step g j u hlt)
            have HFR := hid (rowTo_fresh HK.out j hlt)
            generalize g.es[j]?.getD default = x at *
            obtain ⟨xa, xb, m⟩ := x
            obtain ⟨A, rfl⟩ := Int.eq_ofNat_of_zero_le y1
            obtain ⟨B, rfl⟩ := Int.eq_ofNat_of_zero_le (show 0 ≤ xb by dsimp only at y2; omega)
            dsimp only at x1 x2 x3 y2 y3 y4 y5 HFR
            have HM := hid (And.intro y4 y5)
            have hAN : A < k := by omega
            have hBN : B < k := by omega
            have hgl : (j : Int) < (g.es.length : Int) := by omega
            have hj0 : (0 : Int) ≤ (j : Int) := by omega
            have HX := hid (Blk.new W5 #[.int .i64 A, .int .i64 B, .int .i64 m] 96)
            have k1 : Below W5.heap.size W5 (W5.alloc (.cells #[.int .i64 A, .int .i64 B, .int .i64 m] 96)) := (Below.refl _ _).alloc (Nat.le_refl _) _
            have HD6 := hid (HD.out.mono k1)
            have HB6 := hid (HB.out.trans (k1.mono HB.out.size))
            have HGL := hid HK.out.len
            clear hx y1 y2 y3 y4 y5 k1 HD HB
            by_cases hab : A = B
            · subst hab
              have hab1 : ((A : Int) == (A : Int)) = true := by simp
              have HD8 := HD6.out.congr (V' := fun u => valTo g (j + 1) u) (R' := fun v u => rowTo g v (j + 1) u) (fun i u _ _ => by rw [HSR.out]; unfold rowE; simp) (fun u _ => by rw [HSV.out]; unfold valE; simp)
              have HD8 := hid HD8
              clear HD6 HX
              go_wp2_with fail
              exact ⟨⟨j + 1, by omega, by simp, HD8, HB6⟩, by simp [intOf]; omega⟩
            · have hab1 : ((A : Int) == (B : Int)) = false := by simp; omega
              go_wp2_with fail
              obtain ⟨W6, hW6⟩ : ∃ W : World, W = W5.alloc (.cells #[.int .i64 A, .int .i64 B, .int .i64 m] 96) := ⟨_, rfl⟩
              rw [← hW6] at HX HD6 HB6 ⊢
              have HEB : Hid (W5.heap.size < W6.heap.size) := HX.out.lt
              clear hW6
              generalize W5.heap.size = eb at *
              have hpz := part_zero (fun u => valTo g j u) (fun v u => rowTo g v j u) A B m
              have HD7 : Hid (Bd W6 W1.heap.size b bv go bs q k (fun u => vPart (fun u => valTo g j u) A B m 0 u) (fun v u => rPart (fun v u => rowTo g v j u) A B m 0 v u)) := HD6.out.congr (fun i u _ _ => hpz.2 i u) (fun u _ => hpz.1 u)
              have HBV := hid (fun u => valTo_bd HK.out j u)
              have HPE := hid (part_end (g := g) j A B m hab (fun u => HSV.out u) (fun v u => HSR.out v u) (HFR.out A B rfl rfl hab))
              clear HD6 hpz x1 x2 x3 HSR HSV HFR
              go_loopw [61] (fun i wr => ∃ p : Nat, p ≤ 2 ∧ i = .int .i64 p ∧ Hid (Bd wr W1.heap.size b bv go bs q k (fun u => vPart (fun u => valTo g j u) A B m p u) (fun v u => rPart (fun v u => rowTo g v j u) A B m p v u)) ∧ Hid (Below W1.heap.size W1 wr) ∧ Hid (Blk wr eb #[.int .i64 A, .int .i64 B, .int .i64 m] 96)) (fun i _ => 2 - (intOf i).toNat)
              case atStart => exact ⟨0, by omega, rfl, HD7, HB6, HX⟩
              case round =>
                clear HD7 HB6 HX HEB
                obtain ⟨p, hp2, rfl, HD, HB, HX⟩ := hrel
                obtain ⟨W7, rfl⟩ : ∃ W : World, W = wr := ⟨_, rfl⟩
                by_cases hp : p < 2
                · obtain ⟨P0, P1, hix, hP0, hP1, hPN⟩ : ∃ P0 P1 : Nat, (∀ w, (Instr.index 146 (.agg #[.int .i64 A, .int .i64 B, .int .i64 B, .int .i64 A]) (.int .i64 p)).run Tryz.prog w = .ok (.agg #[.int .i64 P0, .int .i64 P1]) w) ∧ P0 < k ∧ P1 < k ∧ (p = 0 ∧ P0 = A ∧ P1 = B ∨ p = 1 ∧ P0 = B ∧ P1 = A) := by
                    rcases (show p = 0 ∨ p = 1 by omega) with rfl | rfl
                    · exact ⟨A, B, fun w => by kernel_rfl, hAN, hBN, .inl ⟨rfl, rfl, rfl⟩⟩
                    · exact ⟨B, A, fun w => by kernel_rfl, hBN, hAN, .inr ⟨rfl, rfl, rfl⟩⟩
                  have HPX := hid (part_next (fun u => valTo g j u) (fun v u => rowTo g v j u) A B m hab p P0 P1 hPN)
                  have hp2' : (p : Int) < 2 := by omega
                  have kk1 : Below W7.heap.size W7 (W7.alloc (.cells #[.int .i64 P0, .int .i64 P1] 107)) := (Below.refl _ _).alloc (Nat.le_refl _) _
                  have HA := hid (Blk.new W7 #[.int .i64 P0, .int .i64 P1] 107)
                  have HX8 := hid (HX.out.below kk1)
                  have HD8 := hid (HD.out.mono kk1)
                  have HB8 := hid (HB.out.trans (kk1.mono HB.out.size))
                  clear hPN HX HD HB kk1
                  go_wp2_with fail
                  obtain ⟨W8, hW8⟩ : ∃ W : World, W = W7.alloc (.cells #[.int .i64 P0, .int .i64 P1] 107) := ⟨_, rfl⟩
                  rw [← hW8] at HA HX8 HD8 HB8 ⊢
                  clear hW8
                  generalize W7.heap.size = ab at *
                  obtain ⟨c0, _, _⟩ := HD8.out.cells
                  have cv := HD8.out.valAt P0 hP0
                  have e2 := HX8.out.cell 2
                  have a0 := HA.out.cell 0
                  simp only [List.getElem?_toArray, List.getElem?_cons_zero, List.getElem?_cons_succ] at e2 a0
                  have fb := HD8.out.vals.frozenAt P0
                  have l1 := (owns_lt HD8.out.vals).2
                  have hP0' : (P0 : Int) < (k : Int) := by omega
                  have hP00 : (0 : Int) ≤ (P0 : Int) := by omega
                  have ww : IntKind.i64.wrap (vPart (fun u => valTo g j u) A B m p P0 + m) = vPart (fun u => valTo g j u) A B m p P0 + m := IntWalk.i64_in _ (by
                    have h1 := HBV.out P0
                    have h2 := HM.out
                    unfold vPart
                    dsimp only
                    split <;> split <;> omega)
                  have HD9 := hid ((HD8.out.setV P0 (vPart (fun u => valTo g j u) A B m p P0 + m)).congr (V' := fun u => vPart (fun u => valTo g j u) A B m (p + 1) u) (fun _ _ _ _ => rfl) (fun u _ => HPX.out.1 u))
                  have HX9 := hid (HX8.out.other (g := bv) (fun e => owns_blk HX8.out HD8.out.vals (by decide) _ rfl e.symm) P0 (.int .i64 (vPart (fun u => valTo g j u) A B m p P0 + m)))
                  have HA9 := hid (HA.out.other (g := bv) (fun e => owns_blk HA.out HD8.out.vals (by decide) _ rfl e.symm) P0 (.int .i64 (vPart (fun u => valTo g j u) A B m p P0 + m)))
                  have HB9 := hid (HB8.out.setCell (p := ⟨bv, P0, none⟩) (owns_lt HD8.out.vals).1 (.int .i64 (vPart (fun u => valTo g j u) A B m p P0 + m)))
                  have HV9 : Hid (vPart (fun u => valTo g j u) A B m p P0 = vPart (fun u => valTo g j u) A B m p P0) := rfl
                  clear HX8 HA HB8
                  generalize vPart (fun u => valTo g j u) A B m p P0 = x at *
                  let S : World → Prop := fun w' => w'.cell? ⟨b, 0, none⟩ = some (.slice (some ⟨bv, 0, none⟩) k k) ∧ w'.cell? ⟨bv, P0, none⟩ = some (.int .i64 x) ∧ w'.cell? ⟨eb, 2, none⟩ = some (.int .i64 m) ∧ w'.cell? ⟨ab, 0, none⟩ = some (.int .i64 P0)
                  (refine wp_region_text 12 [0,1,2,3,4,5,6,7,8,9,10,11] S (by kernel_rfl) (by kernel_rfl) (by intro _ _ d _ _ h; cases d <;> exact h) ?hS ?_; rotate_left; simp only [List.map_cons, List.map_nil, List.getD_cons_zero, List.getD_cons_succ, List.drop_succ_cons, List.drop_zero])
                  case hS => exact ⟨c0, cv, e2, a0⟩
                  (repeat ((refine' wpSeq_take rfl _ (by rfl) ?_ ?_; rotate_left; focus (intro w' hS; (try dsimp only at hS); obtain ⟨s1, s2, s3, s4⟩ := hS; go_simp; (first | done | with_reducible rfl)); (try simp only [Act.put, List.setIfInBounds_toArray, List.set_cons_zero, List.set_cons_succ])); (try simp only [Act.put, List.setIfInBounds_toArray, List.set_cons_zero, List.set_cons_succ])))
                  refine wpSeq_nil ?_
                  clear S HD8
                  (try simp only [Act.put, List.setIfInBounds_toArray, List.set_cons_zero, List.set_cons_succ])
                  go_upto_region 15 with fail
                  obtain ⟨W9, hW9⟩ : ∃ W : World, W = (W8.setCell ⟨bv, P0, none⟩ (.int .i64 (x + m))).drew := ⟨_, rfl⟩
                  rw [← hW9]
                  have HD10 : Hid (Bd W9 W1.heap.size b bv go bs q k (fun u => vPart (fun u => valTo g j u) A B m (p + 1) u) (fun v u => rPart (fun v u => rowTo g v j u) A B m p v u)) := by rw [hW9]; exact HD9.out.mono (Below.drew (Below.refl _ _))
                  have HX10 : Hid (Blk W9 eb #[.int .i64 A, .int .i64 B, .int .i64 m] 96) := by rw [hW9]; exact HX9
                  have HA10 : Hid (Blk W9 ab #[.int .i64 P0, .int .i64 P1] 107) := by rw [hW9]; exact HA9
                  have HB10 : Hid (Below W1.heap.size W1 W9) := by rw [hW9]; exact HB9.out.drew
                  clear hW9 HD9 HX9 HA9 HB9 c0 cv e2 a0 fb l1 ww
                  obtain ⟨_, c1, _⟩ := HD10.out.cells
                  have cr := HD10.out.rows.at P0 hP0
                  have e2 := HX10.out.cell 2
                  have a0 := HA10.out.cell 0
                  have a1 := HA10.out.cell 1
                  simp only [List.getElem?_toArray, List.getElem?_cons_zero, List.getElem?_cons_succ] at e2 a0 a1
                  have fb := HD10.out.rows.frozen P0 P1 hP0
                  have l1 := (HD10.out.rows.lt P0 hP0).2
                  have cw := HD10.out.rows.cell P0 P1 hP0 hP1
                  have hP1' : (P1 : Int) < (k : Int) := by omega
                  have hP10 : (0 : Int) ≤ (P1 : Int) := by omega
                  have HD11 := hid ((HD10.out.setR P0 P1 hP0 m).congr (R' := fun v u => rPart (fun v u => rowTo g v j u) A B m (p + 1) v u) (fun v u _ _ => HPX.out.2 v u) (fun _ _ => rfl))
                  have HX11 := hid (HX10.out.other (g := bs P0) (fun e => owns_blk HX10.out (HD10.out.rows.row P0 hP0) (by decide) _ rfl e.symm) P1 (.int .i64 m))
                  have HB11 := hid (HB10.out.setCell (p := ⟨bs P0, P1, none⟩) (HD10.out.rows.lt P0 hP0).1 (.int .i64 m))
                  clear HD10 HX10 HA10 HB10 HBV HPX
                  generalize rPart (fun v u => rowTo g v j u) A B m p P0 P1 = y at *
                  generalize bs P0 = br at cr fb l1 cw HD11 HX11 HB11
                  let S : World → Prop := fun w' => w'.cell? ⟨b, 1, none⟩ = some (.slice (some ⟨go, 0, none⟩) k k) ∧ w'.cell? ⟨go, P0, none⟩ = some (.slice (some ⟨br, 0, none⟩) k k) ∧ w'.cell? ⟨eb, 2, none⟩ = some (.int .i64 m) ∧ w'.cell? ⟨ab, 0, none⟩ = some (.int .i64 P0) ∧ w'.cell? ⟨ab, 1, none⟩ = some (.int .i64 P1)
                  (refine wp_region_text 13 [0,1,2,3,4,5,6,7,8,9,10,11,12] S (by kernel_rfl) (by kernel_rfl) (by intro _ _ d _ _ h; cases d <;> exact h) ?hS ?_; rotate_left; simp only [List.map_cons, List.map_nil, List.getD_cons_zero, List.getD_cons_succ, List.drop_succ_cons, List.drop_zero])
                  case hS => exact ⟨c1, cr, e2, a0, a1⟩
                  (repeat ((refine' wpSeq_take rfl _ (by rfl) ?_ ?_; rotate_left; focus (intro w' hS; (try dsimp only at hS); obtain ⟨s1, s2, s3, s4, s5⟩ := hS; go_simp; (first | done | with_reducible rfl)); (try simp only [Act.put, List.setIfInBounds_toArray, List.set_cons_zero, List.set_cons_succ])); (try simp only [Act.put, List.setIfInBounds_toArray, List.set_cons_zero, List.set_cons_succ])))
                  refine wpSeq_nil ?_
                  clear S c1 cr e2 a0 a1
                  (try simp only [Act.put, List.setIfInBounds_toArray, List.set_cons_zero, List.set_cons_succ])
                  have HD12 := hid (HD11.out.mono (Below.drew (Below.refl _ _)))
                  have HX12 : Hid (Blk (W9.setCell ⟨br, P1, none⟩ (.int .i64 m)).drew eb #[.int .i64 A, .int .i64 B, .int .i64 m] 96) := HX11
                  have HB12 := hid HB11.out.drew
                  clear HD11 HX11 HB11
                  go_wp2_with fail
                  exact ⟨⟨p + 1, by omega, by simp, HD12, HB12, HX12⟩, by simp [intOf]; omega⟩
                · obtain rfl : p = 2 := by omega
                  have HDE : Hid (Bd W7 W1.heap.size b bv go bs q k (fun u => valTo g (j + 1) u) (fun v u => rowTo g v (j + 1) u)) := HD.out.congr (fun i u _ _ => HPE.out.2 i u) (fun u _ => HPE.out.1 u)
                  clear HD
                  go_wp2_with fail
                  exact ⟨⟨j + 1, by omega, by simp, HDE, HB⟩, by simp [intOf]; omega⟩
          · obtain rfl : j = g.es.length := by omega
            have HDE : Hid (Bd W5 W1.heap.size b bv go bs q k (fun v => valence g v) (rowsF g)) := HD.out.congr (fun i u _ _ => rowTo_end HK.out i u) (fun u _ => valTo_end HK.out u)
            clear HD
            go_wp2_with fail
            go_ret
            have hs := HBW.out.size
            exact ⟨b, bv, go, bs, rfl, ⟨HDE.out.blk, owns_base HDE.out.vals hs, HDE.out.rows.rebase hs, Nat.le_trans hs HDE.out.hb, HDE.out.ne⟩, HBW.out.trans (HB.out.mono hs)⟩

end Go.Proofs.YtbjoblkigbphhaaGreat
