/-
  lexer.Scan: the classes of bytes, the scanner's take and next, Scan: its tokens, or the offset and the error, for every text.
-/
import Derived.Test.YtkeglokokleonaaDoorK4
import Derived.Laws.EntriesVeiled
namespace Go.Proofs.YtkeglokokleonaaDoor
open Go.RowKit

theorem results_cell1' {P : Program} {fn : Func} {k : Nat} {t : TypeId} (h : fn.results = #[.cell k t]) {tmps : Array Value} {b : Nat} {v : Value} {w : World} (ht : tmps[k]?.getD undef = .pointer (some ⟨b, 0, none⟩))
    (hl : (loadVar t ⟨b, 0, none⟩).run P w = .ok v w) : (results fn tmps).run P w = .ok v w := by
  simp [results, h, ht, asAddr, hl]

def clW : List Value := [.string (str letters), .int .i64 0, .func (.func 70) #[] #[], .bool true]
def clN : List Value := [.string (str figures), .int .i64 1, .func (.func 71) #[] #[], .bool true]
def clS : List Value := [.string (str marks), .int .i64 2, .func (.func 72) #[] #[], .bool false]
def clsV : Value := .agg #[.string (str letters), .int .i64 0, .func (.func 70) #[] #[], .bool true, .string (str figures), .int .i64 1, .func (.func 71) #[] #[], .bool true,
  .string (str marks), .int .i64 2, .func (.func 72) #[] #[], .bool false]

set_option maxRecDepth 100000 in
set_option maxHeartbeats 2000000 in
theorem p_classes (w : World) : Calls Tryd.prog 49 #[] w fun e w' => e = .returned clsV ∧ Below w.heap.size w w' := by
  go_enter Tryd.func49, Tryd.ntmps49
  go_wp2_with fail
  refine bodyPost_ret (results_cell1' (v := clsV) rfl rfl ?_) rfl ?_
  · unfold clsV
    go_simp
    exact ⟨rfl, rfl, rfl⟩
  · exact ⟨rfl, by go_grown⟩

/-- A block of the heap and its cells. -/
def Blk (w : World) (b : Nat) (cs : Array Value) (t : TypeId) : Prop := w.heap[b]? = some (.cells cs t (0, 0))
section
variable {w w' : World} {b : Nat} {cs : Array Value} {t : TypeId}
theorem Blk.cell (h : Blk w b cs t) (k : Nat) : w.cell? ⟨b, k, none⟩ = cs[k]? := by
  unfold Blk at h; simp [World.cell?, h]
theorem Blk.frozen (h : Blk w b cs t) (k : Nat) : w.frozen? ⟨b, k, none⟩ = false := by
  unfold Blk at h; simp [World.frozen?, h]
theorem Blk.lt (h : Blk w b cs t) : b < w.heap.size := (Array.getElem?_eq_some_iff.1 h).1
theorem Blk.set (h : Blk w b cs t) (k : Nat) (v : Value) : Blk (w.setCell ⟨b, k, none⟩ v) b (cs.setIfInBounds k v) t := by
  unfold Blk at *
  simp [World.setCell, Array.getElem?_modify, h]
theorem Blk.below (h : Blk w b cs t) (hB : Below w.heap.size w w') : Blk w' b cs t := by
  unfold Blk at *; rw [hB.block b (Array.getElem?_eq_some_iff.1 h).1]; exact h
theorem Blk.grown (h : Blk w b cs t) {r : Option Nat} (hg : w.grownBy w' r) (hne : some b ≠ r) : Blk w' b cs t := by
  unfold Blk at *; rw [hg.block b (Array.getElem?_eq_some_iff.1 h).1 hne]; exact h
end

/-- The scanner in memory: the text, where it stands, the tokens so far. -/
structure Scr (w : World) (B b : Nat) (s : List UInt8) (p : Nat) (v : Value) (l : List Tok) : Prop where
  blk : Blk w b #[.string (str s), .int .i64 p, v] 60
  le : B ≤ b
  row : w.ownsRow B 40 3 v l.length (tokCells l)
  ne : some b ≠ v.ownBlock
  size : B ≤ w.heap.size

theorem Scr.below {w w' : World} {B b : Nat} {s : List UInt8} {p : Nat} {v : Value} {l : List Tok} (h : Scr w B b s p v l) (hB : Below w.heap.size w w') : Scr w' B b s p v l :=
  ⟨h.blk.below hB, h.le, owns_below h.row hB, h.ne, Nat.le_trans h.size hB.size⟩
theorem Scr.cells {w : World} {B b : Nat} {s : List UInt8} {p : Nat} {v : Value} {l : List Tok} (h : Scr w B b s p v l) :
    w.cell? ⟨b, 0, none⟩ = some (.string (str s)) ∧ w.cell? ⟨b, 1, none⟩ = some (.int .i64 p) ∧ w.cell? ⟨b, 2, none⟩ = some v ∧ b < w.heap.size ∧ w.frozen? ⟨b, 1, none⟩ = false ∧ w.frozen? ⟨b, 2, none⟩ = false :=
  ⟨by rw [h.blk.cell]; rfl, by rw [h.blk.cell]; rfl, by rw [h.blk.cell]; rfl, h.blk.lt, h.blk.frozen 1, h.blk.frozen 2⟩

theorem owns_ne_blk {w : World} {base b : Nat} {e T : TypeId} {size n : Nat} {v : Value} {xs : List Value} {cs : Array Value} (h : w.ownsRow base e size v n xs) (hb : Blk w b cs T) (hT : T ≠ e) : some b ≠ v.ownBlock := by
  rcases h.2 with ⟨rfl, _⟩ | ⟨g, cap, cur, rfl, _, hg, _⟩
  · simp [Value.ownBlock]
  · intro he
    have hgb : b = g := by simpa [Value.ownBlock] using he
    subst hgb
    unfold Blk at hb
    rw [hg] at hb
    simp at hb
    exact hT hb.2.symm

theorem Scr.put {w w' : World} {B b : Nat} {s : List UInt8} {p q : Nat} {v v' : Value} {l' : List Tok} (h : Blk w b #[.string (str s), .int .i64 p, v] 60) (hle : B ≤ b) (hs : B ≤ w.heap.size)
    (hrow : w.ownsRow B 40 3 v' l'.length (tokCells l')) (he : w' = (w.setCell ⟨b, 2, none⟩ v').setCell ⟨b, 1, none⟩ (.int .i64 q)) : Scr w' B b s q v' l' := by
  subst he
  have hne := owns_ne_blk hrow h (by decide)
  have h1 : Blk ((w.setCell ⟨b, 2, none⟩ v').setCell ⟨b, 1, none⟩ (.int .i64 q)) b _ _ := (h.set 2 v').set 1 (.int .i64 q)
  refine ⟨h1, hle, ?_, hne, by simpa using hs⟩
  have ho : v'.ownBlock = none ∨ v'.ownBlock ≠ some b := .inr (fun h => hne h.symm)
  exact (hrow.kept (grown_set w b 2 v') ho).kept (grown_set _ b 1 _) ho

/-- What take leaves. -/
def Took (B b : Nat) (s : List UInt8) (p : Nat) (v : Value) (l : List Tok) (k : Int) (t : List UInt8) (er : Int) (w : World) (e : Ending) (w' : World) : Prop :=
  e = .returned (.int .i64 er) ∧ Below B w w' ∧ (er ≠ 0 → Scr w' B b s p v l) ∧ (er = 0 → ∃ v', Scr w' B b s (p + t.length) v' (l ++ [⟨k, t, p⟩]))

theorem take_drop_len (f : UInt8 → Bool) (l : List UInt8) : (l.takeWhile f).length + (l.dropWhile f).length = l.length := by
  rw [← List.length_append, List.takeWhile_append_dropWhile]

end Go.Proofs.YtkeglokokleonaaDoor
