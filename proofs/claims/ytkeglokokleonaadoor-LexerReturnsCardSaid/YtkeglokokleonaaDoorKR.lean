/-
  From what an argument reads as to the shapes of this proof: a slice of tokens.
-/
import Derived.Test.YtkeglokokleonaaDoorK18
import Derived.Test.YtkeglokokleonaaDoorTie
import Derived.Test.YtkeglokokleonaaDoorCards
import Derived.ProofKit
import Derived.OpenShut
import Derived.ChangeOld
import Derived.Below
import Derived.Carry
import Derived.SizedLaws
import Derived.Lib.SmallJoins
import Derived.Deep.Slices
import Derived.Deep.SlicePairs
import Derived.Deep.Fields
import Derived.LaidMore
import Derived.Lay
import Derived.SevenTiedAt
import Derived.Stop.Joined
namespace Go.Proofs.YtkeglokokleonaaDoor
open Go.ChangeShapes Go.WideShapes Go.ChangeAt Go.RowKit Go.Deep Go.Joins
set_option linter.unusedVariables false

theorem law_own : ownKnob Tryd.prog.godebug = none := by kernel_rfl
theorem law_laidOut : laidOutB Tryd.prog = true := by kernel_rfl
theorem und_bool : Tryd.prog.underlying 4 = some .bool := by kernel_rfl
theorem und_string : Tryd.prog.underlying 9 = some .string := by kernel_rfl
theorem und_int : Tryd.prog.underlying 3 = some (.int .i64) := by kernel_rfl
theorem und_Toks : Tryd.prog.underlying 23 = some (.slice 40) := by kernel_rfl
theorem cells_Tok : Tryd.prog.cellsOf 40 = 3 := by kernel_rfl
theorem cells_int : Tryd.prog.cellsOf 3 = 1 := by kernel_rfl
theorem cells_string : Tryd.prog.cellsOf 9 = 1 := by kernel_rfl
theorem bytes_Tok : Tryd.prog.bytesOf 40 = 32 := by kernel_rfl

theorem law_lt {w : World} {a : Addr} {v : Value} (h : w.cell? a = some v) : a.block < w.heap.size := by
  rcases Nat.lt_or_ge a.block w.heap.size with h' | h'
  · exact h'
  · simp [World.cell?, Array.getElem?_eq_none h'] at h

theorem cellsAt_of (w : World) (a : Addr) (n k : Nat) (xs : List Value) (hk : 0 < k) (hn : xs.length = n * k) (h : ∀ i, i < n → ∀ j, j < k → w.cell? (a.add (i * k + j)) = xs[i * k + j]?) : CellsAt w (some a) xs := by
  by_cases hx : xs = []
  · exact .inl hx
  have hpos : 0 < xs.length := List.length_pos_iff.2 hx
  have hn0 : 0 < n := by rcases Nat.eq_zero_or_pos n with h0 | h0 <;> simp_all
  have h00 := h 0 hn0 0 hk
  rw [show (0 * k + 0 : Nat) = 0 by omega, List.getElem?_eq_getElem hpos] at h00
  have hsp := World.cell?_spot h00
  have hlt := law_lt h00
  obtain ⟨b, off, spot⟩ := a
  simp [Addr.add] at hsp hlt
  subst hsp
  refine .inr ⟨b, off, rfl, hlt, fun i hi => ?_⟩
  have e1 : i / k * k + i % k = i := by rw [Nat.mul_comm]; exact Nat.div_add_mod i k
  have := h (i / k) (by rw [hn] at hi; exact Nat.div_lt_of_lt_mul (by rw [Nat.mul_comm]; exact hi)) (i % k) (Nat.mod_lt _ hk)
  rw [e1] at this
  rw [← this]
  congr 1
  unfold Addr.add; split <;> simp_all

section
variable {H : Type} {enc : TypeId × Value → H} {W : World} {base : Nat} {held : Bool}

theorem list3 {α : Type} {l : List α} (h : l.length = 3) : ∃ x y z, l = [x, y, z] := by
  match l, h with
  | [x, y, z], _ => exact ⟨x, y, z, rfl⟩
theorem list2 {α : Type} {l : List α} (h : l.length = 2) : ∃ x y, l = [x, y] := by
  match l, h with
  | [x, y], _ => exact ⟨x, y, rfl⟩

theorem struct_tok : ∃ f0 f1 f2 : Field, Tryd.prog.underlying 40 = some (.struct #[f0, f1, f2]) ∧ f0.type = 3 ∧ f1.type = 9 ∧ f2.type = 3 ∧ f0.offset = 0 ∧ f1.offset = 1 ∧ f2.offset = 2 :=
  ⟨_, _, _, Tryd.underlying40, rfl, rfl, rfl, rfl, rfl, rfl⟩

set_option maxRecDepth 100000 in
theorem reads_toks {fuel : Nat} {v : Value} {y : DataW H × List MemPlace} (h : DataW.trod enc Tryd.prog W base (fun _ => true) held fuel 23 [v] = some y)
    (hs : (y.1.weights Tryd.prog 23).all (· ≤ reachBytes) = true) : ∃ l, ToksR W v l := by
  rcases open_slice und_Toks h with ⟨hcs, rfl⟩ | ⟨a, len, cap, m, n, D, Pl, hcs, _, hl, hm, hmm, rfl, hx⟩
  · simp at hcs
    subst hcs
    exact ⟨[], none, 0, rfl, Nat.le_refl _, by omega, by decide, .inl rfl⟩
  · simp at hcs
    subst hcs
    simp only [if_true] at hmm
    subst hmm
    obtain ⟨f0, f1, f2, hu, t0, t1, t2, o0, o1, o2⟩ := struct_tok
    have each : ∀ i, i < m → ∃ x : Tok, ∀ j, j < 3 → W.cell? (a.add (i * 3 + j)) = x.cells[j]? := by
      intro i hi
      obtain ⟨cs', h1, h2⟩ := hx i hi
      rw [cells_Tok] at h1
      obtain ⟨_, hlen, hcell⟩ := World.cells?_some h1
      obtain ⟨xs, k, _, _, _, hxl, hf⟩ := DataW.trod_struct hu h2
      obtain ⟨y0, y1, y2, rfl⟩ := list3 hxl
      obtain ⟨v0, v1, v2, rfl⟩ := list3 hlen
      focus
        have g0 := hf 0 f0 rfl
        have g1 := hf 1 f1 rfl
        have g2 := hf 2 f2 rfl
        simp [o0, o1, o2, t0, t1, t2, cells_int, cells_string] at g0 g1 g2
        obtain ⟨n0, e0, _⟩ := DataW.trod_int und_int g0
        obtain ⟨s1, e1, _⟩ := DataW.trod_string und_string g1
        obtain ⟨n2, e2, _⟩ := DataW.trod_int und_int g2
        simp at e0 e1 e2
        subst e0 e1 e2
        refine ⟨⟨n0, s1.data.toList, n2⟩, fun j hj => ?_⟩
        rw [← add_add, hcell j hj]
        unfold Tok.cells
        rw [str_list]
    obtain ⟨q, hq⟩ := choose_lt (α := Tok) each
    refine ⟨(List.range len).map q, some a, m, by simp, by simpa using hl, by unfold maxLen at hm; omega, ?_, ?_⟩
    · have hw : (len + (m - len)) * 32 ≤ reachBytes := by
        have := List.all_eq_true.1 hs ((len + (m - len)) * 32) (by simp [DataW.weights, bytes_Tok])
        simpa using this
      have := reachBytes_lt
      simp
      omega
    · refine cellsAt_of W a len 3 _ (by decide) ?_ fun i hi j hj => ?_
      · rw [tokCells_length]; simp
      · rw [hq i (by omega) j hj, tokCells_get _ i (by simpa using hi) j hj]
        simp [hi]

end

/-- The weight of an argument, out of all of them. -/
theorem weigh {H : Type} {P : Program} {ts : List TypeId} {ds : List (DataW H)} (h : (DataW.weightsEach P ts ds).all (· ≤ reachBytes) = true) (j : Nat) (t : TypeId) (d : DataW H) (ht : ts[j]? = some t) (hd : ds[j]? = some d) : (d.weights P t).all (· ≤ reachBytes) = true := by
  rw [List.all_eq_true] at h ⊢
  intro k hk
  exact h k (DataW.weights_mem_each ht hd k hk)

end Go.Proofs.YtkeglokokleonaaDoor
