/-
  Small laws on owned rows and worlds; no program in sight.
-/
import Derived.Test.YtlhbgainpeehoaaLib
namespace Go.Proofs.Ytlhbgainpeehoaa
open Go.RowKit

theorem Below.toGrown {w w' : World} (h : Below w.heap.size w w') (row : Option Nat) : w.grownBy w' row := ⟨h.os, h.tape, h.output, h.size, fun k hk _ => h.block k hk⟩
theorem owns_below {w w' : World} {base : Nat} {e : TypeId} {size : Nat} {v : Value} {n : Nat} {xs : List Value} (h : w.ownsRow base e size v n xs) (hB : Below w.heap.size w w') : w'.ownsRow base e size v n xs :=
  h.kept (Below.toGrown hB none) (by cases hv : v.ownBlock <;> simp)
theorem bcellB {B : Nat} {W w1 : World} (hb : Below B W w1) : (∀ b o, b < B → w1.cell? ⟨b, o, none⟩ = W.cell? ⟨b, o, none⟩) ∧ (∀ b o, b < B → w1.frozen? ⟨b, o, none⟩ = W.frozen? ⟨b, o, none⟩) :=
  ⟨fun b o h => hb.cell (p := ⟨b, o, none⟩) h, fun b o h => hb.frozen (p := ⟨b, o, none⟩) h⟩
theorem owns_bool {w : World} {base : Nat} {e : TypeId} {g n cap : Nat} {l : List Bool} (h : w.ownsRow base e 1 (.slice (some ⟨g, 0, none⟩) n cap) n (l.map Value.bool)) (k : Nat) (hk : k < n) :
    w.cell? ⟨g, k, none⟩ = some (.bool (l[k]?.getD false)) := by
  have hl := h.1
  simp only [List.length_map, Nat.mul_one] at hl
  rw [h.cellAt k (by omega)]
  simp [show k < l.length by omega]
theorem owns_int {w : World} {base : Nat} {e : TypeId} {g n cap : Nat} {l : List Int} (h : w.ownsRow base e 1 (.slice (some ⟨g, 0, none⟩) n cap) n (l.map (Value.int .i64))) (k : Nat) (hk : k < n) :
    w.cell? ⟨g, k, none⟩ = some (.int .i64 (l[k]?.getD 0)) := by
  have hl := h.1
  simp only [List.length_map, Nat.mul_one] at hl
  rw [h.cellAt k (by omega)]
  simp [show k < l.length by omega]
theorem owns_set {α : Type} {w : World} {base : Nat} {e : TypeId} {g n cap : Nat} {f : α → Value} {l : List α} (h : w.ownsRow base e 1 (.slice (some ⟨g, 0, none⟩) n cap) n (l.map f)) (k : Nat) (u : α) :
    (w.setCell ⟨g, k, none⟩ (f u)).ownsRow base e 1 (.slice (some ⟨g, 0, none⟩) n cap) n ((l.set k u).map f) := by
  rw [List.map_set]; exact (h.stored k (f u)).1
theorem owns_lt {w : World} {base : Nat} {e : TypeId} {size g n cap : Nat} {xs : List Value} (h : w.ownsRow base e size (.slice (some ⟨g, 0, none⟩) n cap) n xs) : base ≤ g ∧ g < w.heap.size := h.lt g rfl

theorem grown_set (w : World) (g k : Nat) (u : Value) : w.grownBy (w.setCell ⟨g, k, none⟩ u) (some g) :=
  ⟨rfl, rfl, rfl, by simp [World.setCell], fun j _ hne => Below.heap_setCell _ _ _ _ (by simpa using hne)⟩
theorem owns_other {w : World} {base : Nat} {e : TypeId} {size b n cap : Nat} {xs : List Value} (h : w.ownsRow base e size (.slice (some ⟨b, 0, none⟩) n cap) n xs) {g : Nat} (hne : b ≠ g) (k : Nat) (u : Value) :
    (w.setCell ⟨g, k, none⟩ u).ownsRow base e size (.slice (some ⟨b, 0, none⟩) n cap) n xs := h.kept (grown_set w g k u) (.inr (by simpa [Value.ownBlock] using hne))
/-- make of n zero values of one cell each. -/
theorem wpList_mk1 {P : Program} (w : World) {ops : Array Oper} {rest : List Oper} {o : Oper} {a : Act} {Q : Exit → Act → World → Prop} {α : Type} (f : α → Value) (z0 : α)
    (hg : o.guard = none) (l c : Operand) (t : TypeId) (hop : o.op = Op.makeSlice t l c)
    (base : Nat) (e : TypeId) (bytes : Nat) (h1 : P.underlying t = some (.slice e)) (hinfo : (P.info? e).map (fun i => (i.zero, i.size, i.bytes)) = some (some (f z0), 1, bytes)) (hzc : (f z0).cells = #[f z0])
    (L : Int) (hl : a.eval l = .int .i64 L) (hc : a.eval c = .int .i64 L) (h0 : 0 ≤ L) (hb : bytes * L.toNat ≤ 281474976710656) (h63 : L ≤ 9223372036854775807) (B : Nat) (hBs : B = w.heap.size) (hbase : base ≤ B)
    (hK : ∀ w', w'.ownsRow base e 1 (.slice (some ⟨B, 0, none⟩) L.toNat L.toNat) L.toNat ((List.replicate L.toNat z0).map f) → Below w.heap.size w w' →
      wpList P ops Q rest (a.put o.dst (.slice (some ⟨B, 0, none⟩) L.toNat L.toNat)) w') :
    wpList P ops Q (o :: rest) a w := by
  obtain ⟨i, hi, hz, hs, hby⟩ := info_parts hinfo
  subst hBs
  refine wpList_make_full w hg l c t hop base e i (f z0) 1 h1 hi hz hs .i64 .i64 L L L.toNat hl hc (by omega) (by omega) (by rw [hby]; exact hb) (by unfold maxLen; omega) hbase fun w' hown hgr => ?_
  rw [hzc, Nat.mul_one, toList_madeCells_one] at hown
  exact hK w' (by simpa using hown) ⟨hgr.os, hgr.tape, hgr.output, hgr.size, fun k hk => hgr.block k hk (by simp)⟩

end Go.Proofs.Ytlhbgainpeehoaa
