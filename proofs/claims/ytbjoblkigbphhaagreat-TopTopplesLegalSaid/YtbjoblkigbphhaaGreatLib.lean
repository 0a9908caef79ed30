/-
  Reading of the data that the functions of this seat share: slices of integers, of edges, a graph; no program in sight.
  Small laws on owned rows and worlds; no program in sight.
-/
import Derived.WalkKit
import Derived.WalkSpells
import Derived.WalkLawsBesides
import Derived.Handy
import Derived.Deep.RegionLaw
import Derived.Deep.QuietTactic
import Derived.BigQuiet
import Derived.Deep.LoopGhost
namespace Go.Proofs.YtbjoblkigbphhaaGreat
open Go.RowKit

theorem hid {p : Prop} (h : p) : Hid p := h
theorem up {w W w' : World} (h0 : Below w.heap.size w W) (h : Below W.heap.size W w') : Below w.heap.size w w' := h0.trans (h.mono h0.size)
/-- The walk's two rules behind a call that only makes new blocks. -/
theorem bcell {W w1 : World} (hb : Below W.heap.size W w1) : (∀ b o, b < W.heap.size → w1.cell? ⟨b, o, none⟩ = W.cell? ⟨b, o, none⟩) ∧ (∀ b o, b < W.heap.size → w1.frozen? ⟨b, o, none⟩ = W.frozen? ⟨b, o, none⟩) :=
  ⟨fun b o h => hb.cell (p := ⟨b, o, none⟩) h, fun b o h => hb.frozen (p := ⟨b, o, none⟩) h⟩

/-- The first of f i, f (i + 1), .. that is not 0, among n of them; or 0. -/
def firstNZ (f : Nat → Int) : Nat → Nat → Int
  | _, 0 => 0
  | i, n + 1 => if f i ≠ 0 then f i else firstNZ f (i + 1) n
theorem firstNZ_step (f : Nat → Int) (i n : Nat) (h : i < n) : firstNZ f i (n - i) = if f i ≠ 0 then f i else firstNZ f (i + 1) (n - (i + 1)) := by
  obtain ⟨k, rfl⟩ : ∃ k, n = i + k + 1 := ⟨n - i - 1, by omega⟩
  rw [show i + k + 1 - i = k + 1 by omega, show i + k + 1 - (i + 1) = k by omega]; rfl
theorem firstNZ_end (f : Nat → Int) (i n : Nat) (h : n ≤ i) : firstNZ f i (n - i) = 0 := by
  rw [Nat.sub_eq_zero_of_le h]; rfl

theorem ret_int {k : IntKind} {a b : Int} (h : a = b) : Ending.returned (.int k a) = .returned (.int k b) := by rw [h]
theorem ret_bool {a b : Bool} (h : a = b) : Ending.returned (.bool a) = .returned (.bool b) := by rw [h]

/-- The cells cs lie in w from address a on. -/
def CellsAt (w : World) (a : Option Addr) (cs : List Value) : Prop :=
  cs = [] ∨ ∃ b off, a = some ⟨b, off, none⟩ ∧ b < w.heap.size ∧ ∀ i, i < cs.length → w.cell? ⟨b, off + i, none⟩ = cs[i]?

theorem CellsAt.below {w w' : World} {a : Option Addr} {cs : List Value} (h : CellsAt w a cs) (hb : Below w.heap.size w w') : CellsAt w' a cs := by
  rcases h with h | ⟨b, off, rfl, hl, hc⟩
  · exact .inl h
  · exact .inr ⟨b, off, rfl, Nat.lt_of_lt_of_le hl hb.size, fun i hi => (hb.cell hl).trans (hc i hi)⟩

/-- v is a slice of integers that holds xs in w. -/
def IntsR (w : World) (v : Value) (xs : List Int) : Prop :=
  ∃ a cap, v = .slice a xs.length cap ∧ xs.length ≤ cap ∧ cap ≤ 9223372036854775807 ∧ xs.length * 8 ≤ 140737488355328 ∧ CellsAt w a (xs.map (Value.int .i64))

theorem IntsR.below {w w' : World} {v : Value} {xs : List Int} (h : IntsR w v xs) (hb : Below w.heap.size w w') : IntsR w' v xs := by
  obtain ⟨a, cap, h1, h2, h3, h4, h5⟩ := h
  exact ⟨a, cap, h1, h2, h3, h4, h5.below hb⟩

/-- The cell of an element, at a place that is written as a sum. -/
theorem CellsAt.int {w : World} {a : Option Addr} {xs : List Int} (h : CellsAt w a (xs.map (Value.int .i64))) (hk : 0 < xs.length) :
    ∃ b off, a = some ⟨b, off, none⟩ ∧ b < w.heap.size ∧ ∀ k, k < xs.length → w.cell? ⟨b, off + k, none⟩ = some (.int .i64 (xs[k]?.getD 0)) := by
  rcases h with h | ⟨b, off, rfl, hl, hc⟩
  · simp at h; subst h; simp at hk
  · refine ⟨b, off, rfl, hl, fun k hk => ?_⟩
    rw [hc k (by simpa using hk)]
    simp [hk]

/-- append to a slice of the call's own, as a step of a region that draws its order. -/
theorem step_append_own {P : Program} {ops : Array Oper} {o : Oper} {a : Act} {w : World} {K : Act → World → Prop} {Q : Exit → Act → World → Prop} {F : Prop}
    (hgd : o.guard = none) (s x : Operand) (t : TypeId)
    (ho : o.op = .call { callee := .builtin .append, args := #[s, x], argTypes := #[t, t] })
    (base : Nat) (e : TypeId) (i : TypeInfo) (z : Value) (size bytes : Nat) (ht : P.underlying t = some (.slice e)) (hi : P.info? e = some i) (hz : i.zero = some z)
    (hsize : i.size = size) (hby : i.bytes = bytes) (hzs : z.cells.size = size) (hsz : 0 < size)
    (v : Value) (n : Nat) (xs : List Value) (hs : a.eval s = v) (hown : w.ownsRow base e size v n xs)
    (ad : Addr) (m c : Nat) (news : List Value) (hx : a.eval x = .slice (some ad) m c) (hl : news.length = m * size) (hnews : ∀ j u, news[j]? = some u → w.cell? (ad.add j) = some u) (h1 : ∀ u ∈ news, u.oneCell' = true)
    (h63 : n + m ≤ maxLen) (hbytes : (n + m) * bytes ≤ 140737488355328) (hbase : base ≤ w.heap.size)
    (h : ∀ v' w', w'.ownsRow base e size v' (n + m) (xs ++ news) → w.grownBy w' v.ownBlock → (v' = .slice none 0 0 ↔ v = .slice none 0 0 ∧ m = 0) → K (a.put o.dst v') w') :
    if Region.wanted o (yielded ops a.tmps) = true then Oper.wp P o a w K Q else F := by
  rw [if_pos (by simp [Region.wanted, hgd])]
  exact wp_append_own w s x t ho base e i z size bytes ht hi hz hsize hby hzs hsz v n xs hs hown ad m c news hx hl hnews h1 h63 hbytes hbase h

theorem owns_base {w : World} {base base' : Nat} {e : TypeId} {size : Nat} {v : Value} {n : Nat} {xs : List Value} (h : w.ownsRow base e size v n xs) (hb : base' ≤ base) : w.ownsRow base' e size v n xs := by
  refine ⟨h.1, ?_⟩
  rcases h.2 with hn | ⟨g, cap, cur, hv, hbg, rest⟩
  · exact .inl hn
  · exact .inr ⟨g, cap, cur, hv, Nat.le_trans hb hbg, rest⟩
theorem grown_ad (w : World) (o : Obj) (row : Option Nat) : w.grownBy (w.alloc o).drew row :=
  ⟨rfl, rfl, rfl, by simp, fun k hk _ => Below.heap_alloc w o k hk⟩
theorem ownsRow_ad {w : World} {base : Nat} {e : TypeId} {size : Nat} {v : Value} {n : Nat} {xs : List Value} (h : w.ownsRow base e size v n xs) (o : Obj) :
    (w.alloc o).drew.ownsRow base e size v n xs := h.kept (grown_ad w o none) (by cases hv : v.ownBlock <;> simp)
theorem news_ad (w : World) (c : List Value) (t : TypeId) (j : Nat) (u : Value) (h : c[j]? = some u) :
    (w.alloc (.cells c.toArray t)).drew.cell? ((⟨w.heap.size, 0, none⟩ : Addr).add j) = some u := by
  have e : (⟨w.heap.size, 0, none⟩ : Addr).add j = ⟨w.heap.size, j, none⟩ := by unfold Addr.add; split <;> simp_all
  rw [e]
  show (w.alloc (.cells c.toArray t)).cell? _ = _
  rw [World.cell?_alloc_new]; simpa using h
theorem ints_oneCell' (l : List Int) : ∀ u ∈ l.map (Value.int .i64), u.oneCell' = true := by
  intro u hu; obtain ⟨x, _, rfl⟩ := List.mem_map.1 hu; rfl
theorem below_append {B : Nat} {W w w1 w' : World} {base : Nat} {e : TypeId} {size : Nat} {v : Value} {n : Nat} {xs : List Value} (hB : Below B W w) (hown : w.ownsRow base e size v n xs)
    (hb : B ≤ base) (hs : B ≤ w.heap.size) (h1 : w.grownBy w1 none) (hg : w1.grownBy w' v.ownBlock) : Below B W w' :=
  (hB.grown h1 hs (by simp)).grown hg (Nat.le_trans hs h1.size) (fun k hk => Nat.le_trans hb (hown.lt k hk).1)

/-- An edge of a graph: its ends, and how often it joins them. -/
structure E where
  a : Int
  b : Int
  m : Int
  deriving DecidableEq, Inhabited

def E.cells (x : E) : List Value := [.int .i64 x.a, .int .i64 x.b, .int .i64 x.m]

/-- A graph. -/
structure G where
  n : Int
  es : List E
  deriving DecidableEq, Inhabited

/-- v is a slice of edges that holds es in w. -/
def EdgesR (w : World) (v : Value) (es : List E) : Prop :=
  ∃ a cap, v = .slice a es.length cap ∧ es.length ≤ cap ∧ cap ≤ 9223372036854775807 ∧ es.length * 24 ≤ 140737488355328 ∧ CellsAt w a (es.flatMap E.cells)

theorem EdgesR.below {w w' : World} {v : Value} {es : List E} (h : EdgesR w v es) (hb : Below w.heap.size w w') : EdgesR w' v es := by
  obtain ⟨a, cap, h1, h2, h3, h4, h5⟩ := h
  exact ⟨a, cap, h1, h2, h3, h4, h5.below hb⟩

theorem flat_length (es : List E) : (es.flatMap E.cells).length = es.length * 3 := by
  induction es with
  | nil => rfl
  | cons x es ih => simp [E.cells, ih]; omega

theorem flat_get (es : List E) : ∀ k, k < es.length → ∀ j, j < 3 → (es.flatMap E.cells)[k * 3 + j]? = (es[k]?.getD default).cells[j]? := by
  induction es with
  | nil => intro k hk; simp at hk
  | cons x es ih =>
    intro k hk j hj
    cases k with
    | zero =>
      simp only [List.flatMap_cons, Nat.zero_mul, Nat.zero_add, List.getElem?_cons_zero, Option.getD_some]
      rw [List.getElem?_append_left (by simp [E.cells]; omega)]
    | succ k =>
      simp only [List.flatMap_cons, List.getElem?_cons_succ]
      rw [List.getElem?_append_right (by simp [E.cells]; omega)]
      rw [← ih k (by simpa using hk) j hj]
      congr 1
      simp [E.cells]; omega

theorem CellsAt.edge {w : World} {a : Option Addr} {es : List E} (h : CellsAt w a (es.flatMap E.cells)) (hk : 0 < es.length) :
    ∃ b off, a = some ⟨b, off, none⟩ ∧ b < w.heap.size ∧ ∀ k, k < es.length → w.cell? ⟨b, off + k * 3, none⟩ = some (.int .i64 (es[k]?.getD default).a) ∧
      w.cell? ⟨b, off + k * 3 + 1, none⟩ = some (.int .i64 (es[k]?.getD default).b) ∧ w.cell? ⟨b, off + k * 3 + 2, none⟩ = some (.int .i64 (es[k]?.getD default).m) := by
  rcases h with h | ⟨b, off, rfl, hl, hc⟩
  · have := flat_length es; rw [h] at this; simp at this; omega
  · refine ⟨b, off, rfl, hl, fun k hk => ?_⟩
    have hl3 := flat_length es
    refine ⟨?_, ?_, ?_⟩
    · rw [hc (k * 3) (by omega)]; exact flat_get es k hk 0 (by omega)
    · rw [Nat.add_assoc, hc (k * 3 + 1) (by omega)]; exact flat_get es k hk 1 (by omega)
    · rw [Nat.add_assoc, hc (k * 3 + 2) (by omega)]; exact flat_get es k hk 2 (by omega)

/-- v is a graph that reads as g in w. -/
def GrR (w : World) (v : Value) (g : G) : Prop := ∃ ev, v = .agg #[.int .i64 g.n, ev] ∧ EdgesR w ev g.es

theorem GrR.below {w w' : World} {v : Value} {g : G} (h : GrR w v g) (hb : Below w.heap.size w w') : GrR w' v g := by
  obtain ⟨ev, h1, h2⟩ := h
  exact ⟨ev, h1, h2.below hb⟩

end Go.Proofs.YtbjoblkigbphhaaGreat

namespace Go.Proofs.YtbjoblkigbphhaaGreat
open Go.RowKit

theorem Below.toGrown {w w' : World} (h : Below w.heap.size w w') (row : Option Nat) : w.grownBy w' row := ⟨h.os, h.tape, h.output, h.size, fun k hk _ => h.block k hk⟩
theorem owns_below {w w' : World} {base : Nat} {e : TypeId} {size : Nat} {v : Value} {n : Nat} {xs : List Value} (h : w.ownsRow base e size v n xs) (hB : Below w.heap.size w w') : w'.ownsRow base e size v n xs :=
  h.kept (Below.toGrown hB none) (by cases hv : v.ownBlock <;> simp)
theorem bcellB {B : Nat} {W w1 : World} (hb : Below B W w1) : (∀ b o, b < B → w1.cell? ⟨b, o, none⟩ = W.cell? ⟨b, o, none⟩) ∧ (∀ b o, b < B → w1.frozen? ⟨b, o, none⟩ = W.frozen? ⟨b, o, none⟩) :=
  ⟨fun b o h => hb.cell (p := ⟨b, o, none⟩) h, fun b o h => hb.frozen (p := ⟨b, o, none⟩) h⟩
theorem owns_bool {w : World} {base : Nat} {e : TypeId} {g n cap : Nat} {l : List Bool} (h : w.ownsRow base e 1 (.slice (some ⟨g, 0, none⟩) n cap) n (l.map Value.bool)) (k : Nat) (hk : k < n) :
    w.cell? ⟨g, k, none⟩ = some (.bool (l[k]?.getD false)) := by
  have hl := h.1
  simp only [List.length_map, Nat.mul_one] at hl
  rw [h.cellAt k (by omega)]
  simp [show k < l.length by omega]
theorem owns_int {w : World} {base : Nat} {e : TypeId} {g n cap : Nat} {l : List Int} (h : w.ownsRow base e 1 (.slice (some ⟨g, 0, none⟩) n cap) n (l.map (Value.int .i64))) (k : Nat) (hk : k < n) :
    w.cell? ⟨g, k, none⟩ = some (.int .i64 (l[k]?.getD 0)) := by
  have hl := h.1
  simp only [List.length_map, Nat.mul_one] at hl
  rw [h.cellAt k (by omega)]
  simp [show k < l.length by omega]
theorem owns_set {α : Type} {w : World} {base : Nat} {e : TypeId} {g n cap : Nat} {f : α → Value} {l : List α} (h : w.ownsRow base e 1 (.slice (some ⟨g, 0, none⟩) n cap) n (l.map f)) (k : Nat) (u : α) :
    (w.setCell ⟨g, k, none⟩ (f u)).ownsRow base e 1 (.slice (some ⟨g, 0, none⟩) n cap) n ((l.set k u).map f) := by
  rw [List.map_set]; exact (h.stored k (f u)).1
theorem owns_lt {w : World} {base : Nat} {e : TypeId} {size g n cap : Nat} {xs : List Value} (h : w.ownsRow base e size (.slice (some ⟨g, 0, none⟩) n cap) n xs) : base ≤ g ∧ g < w.heap.size := h.lt g rfl

theorem grown_set (w : World) (g k : Nat) (u : Value) : w.grownBy (w.setCell ⟨g, k, none⟩ u) (some g) :=
  ⟨rfl, rfl, rfl, by simp [World.setCell], fun j _ hne => Below.heap_setCell _ _ _ _ (by simpa using hne)⟩
theorem owns_other {w : World} {base : Nat} {e : TypeId} {size b n cap : Nat} {xs : List Value} (h : w.ownsRow base e size (.slice (some ⟨b, 0, none⟩) n cap) n xs) {g : Nat} (hne : b ≠ g) (k : Nat) (u : Value) :
    (w.setCell ⟨g, k, none⟩ u).ownsRow base e size (.slice (some ⟨b, 0, none⟩) n cap) n xs := h.kept (grown_set w g k u) (.inr (by simpa [Value.ownBlock] using hne))
/-- make of n zero values of one cell each. -/
theorem wpList_mk1 {P : Program} (w : World) {ops : Array Oper} {rest : List Oper} {o : Oper} {a : Act} {Q : Exit → Act → World → Prop} {α : Type} (f : α → Value) (z0 : α)
    (hg : o.guard = none) (l c : Operand) (t : TypeId) (hop : o.op = Op.makeSlice t l c)
    (base : Nat) (e : TypeId) (bytes : Nat) (h1 : P.underlying t = some (.slice e)) (hinfo : (P.info? e).map (fun i => (i.zero, i.size, i.bytes)) = some (some (f z0), 1, bytes)) (hzc : (f z0).cells = #[f z0])
    (L : Int) (hl : a.eval l = .int .i64 L) (hc : a.eval c = .int .i64 L) (h0 : 0 ≤ L) (hb : bytes * L.toNat ≤ 281474976710656) (h63 : L ≤ 9223372036854775807) (B : Nat) (hBs : B = w.heap.size) (hbase : base ≤ B)
    (hK : ∀ w', w'.ownsRow base e 1 (.slice (some ⟨B, 0, none⟩) L.toNat L.toNat) L.toNat ((List.replicate L.toNat z0).map f) → Below w.heap.size w w' →
      wpList P ops Q rest (a.put o.dst (.slice (some ⟨B, 0, none⟩) L.toNat L.toNat)) w') :
    wpList P ops Q (o :: rest) a w := by
  obtain ⟨i, hi, hz, hs, hby⟩ := info_parts hinfo
  subst hBs
  refine wpList_make_full w hg l c t hop base e i (f z0) 1 h1 hi hz hs .i64 .i64 L L L.toNat hl hc (by omega) (by omega) (by rw [hby]; exact hb) (by unfold maxLen; omega) hbase fun w' hown hgr => ?_
  rw [hzc, Nat.mul_one, toList_madeCells_one] at hown
  exact hK w' (by simpa using hown) ⟨hgr.os, hgr.tape, hgr.output, hgr.size, fun k hk => hgr.block k hk (by simp)⟩

end Go.Proofs.YtbjoblkigbphhaaGreat
