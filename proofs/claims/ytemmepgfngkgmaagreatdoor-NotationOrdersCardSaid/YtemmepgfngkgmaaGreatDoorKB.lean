/-
  The library's strings.Builder laid at this program, in the words of lists of bytes.
-/
import Derived.Test.YtemmepgfngkgmaaGreatDoorK4
import Derived.Shelf.Strings.BuilderK
namespace Go.Proofs.YtemmepgfngkgmaaGreatDoor
open Go.RowKit

def renB : Go.Shelf.Ren := ⟨fun | 166 => 57 | 167 => 123 | 169 => 59 | 170 => 124 | 240 => 109 | 276 => 133 | n => n, fun | 0 => 0 | 3 => 3 | 4 => 4 | 5 => 5 | 9 => 9 | 20 => 20 | 37 => 116 | 70 => 115 | 72 => 118 | 75 => 121 | 80 => 125 | 127 => 177 | 164 => 203 | n => n, fun | n => n⟩
theorem lay166 : Go.Proofs.Lays.n166 Tryz.prog renB :=
  { mixed := by kernel_rfl,
    f166 := by kernel_rfl,
    f240 := by kernel_rfl,
    f276 := by kernel_rfl,
    t0 := by kernel_rfl,
    a0 := fun _ => by kernel_rfl,
    z0 := fun _ => by kernel_rfl,
    v0 := fun _ => by kernel_rfl,
    t3 := by kernel_rfl,
    a3 := fun _ => by kernel_rfl,
    z3 := fun _ => by kernel_rfl,
    v3 := fun _ => by kernel_rfl,
    t4 := by kernel_rfl,
    a4 := fun _ => by kernel_rfl,
    z4 := fun _ => by kernel_rfl,
    v4 := fun _ => by kernel_rfl,
    t9 := by kernel_rfl,
    a9 := fun _ => by kernel_rfl,
    z9 := fun _ => by kernel_rfl,
    v9 := fun _ => by kernel_rfl,
    t20 := by kernel_rfl,
    a20 := fun _ => by kernel_rfl,
    z20 := fun _ => by kernel_rfl,
    v20 := fun _ => by kernel_rfl,
    t37 := by kernel_rfl,
    a37 := fun _ => by kernel_rfl,
    z37 := fun _ => by kernel_rfl,
    v37 := fun _ => by kernel_rfl,
    t70 := by kernel_rfl,
    a70 := fun _ => by kernel_rfl,
    z70 := fun _ => by kernel_rfl,
    v70 := fun _ => by kernel_rfl,
    t72 := by kernel_rfl,
    a72 := fun _ => by kernel_rfl,
    z72 := fun _ => by kernel_rfl,
    v72 := fun _ => by kernel_rfl,
    t75 := by kernel_rfl,
    a75 := fun _ => by kernel_rfl,
    z75 := fun _ => by kernel_rfl,
    v75 := fun _ => by kernel_rfl,
    t164 := by kernel_rfl,
    a164 := fun _ => by kernel_rfl,
    z164 := fun _ => by kernel_rfl,
    v164 := fun _ => by kernel_rfl }
theorem lay167 : Go.Proofs.Lays.n167 Tryz.prog renB :=
  { mixed := by kernel_rfl,
    f167 := by kernel_rfl,
    f240 := by kernel_rfl,
    f276 := by kernel_rfl,
    t0 := by kernel_rfl,
    a0 := fun _ => by kernel_rfl,
    z0 := fun _ => by kernel_rfl,
    v0 := fun _ => by kernel_rfl,
    t4 := by kernel_rfl,
    a4 := fun _ => by kernel_rfl,
    z4 := fun _ => by kernel_rfl,
    v4 := fun _ => by kernel_rfl,
    t5 := by kernel_rfl,
    a5 := fun _ => by kernel_rfl,
    z5 := fun _ => by kernel_rfl,
    v5 := fun _ => by kernel_rfl,
    t9 := by kernel_rfl,
    a9 := fun _ => by kernel_rfl,
    z9 := fun _ => by kernel_rfl,
    v9 := fun _ => by kernel_rfl,
    t20 := by kernel_rfl,
    a20 := fun _ => by kernel_rfl,
    z20 := fun _ => by kernel_rfl,
    v20 := fun _ => by kernel_rfl,
    t37 := by kernel_rfl,
    a37 := fun _ => by kernel_rfl,
    z37 := fun _ => by kernel_rfl,
    v37 := fun _ => by kernel_rfl,
    t70 := by kernel_rfl,
    a70 := fun _ => by kernel_rfl,
    z70 := fun _ => by kernel_rfl,
    v70 := fun _ => by kernel_rfl,
    t72 := by kernel_rfl,
    a72 := fun _ => by kernel_rfl,
    z72 := fun _ => by kernel_rfl,
    v72 := fun _ => by kernel_rfl,
    t75 := by kernel_rfl,
    a75 := fun _ => by kernel_rfl,
    z75 := fun _ => by kernel_rfl,
    v75 := fun _ => by kernel_rfl,
    t164 := by kernel_rfl,
    a164 := fun _ => by kernel_rfl,
    z164 := fun _ => by kernel_rfl,
    v164 := fun _ => by kernel_rfl }
theorem lay169 : Go.Proofs.Lays.n169 Tryz.prog renB :=
  { mixed := by kernel_rfl,
    f169 := by kernel_rfl,
    t0 := by kernel_rfl,
    a0 := fun _ => by kernel_rfl,
    z0 := fun _ => by kernel_rfl,
    v0 := fun _ => by kernel_rfl,
    t3 := by kernel_rfl,
    a3 := fun _ => by kernel_rfl,
    z3 := fun _ => by kernel_rfl,
    v3 := fun _ => by kernel_rfl,
    t9 := by kernel_rfl,
    a9 := fun _ => by kernel_rfl,
    z9 := fun _ => by kernel_rfl,
    v9 := fun _ => by kernel_rfl,
    t37 := by kernel_rfl,
    a37 := fun _ => by kernel_rfl,
    z37 := fun _ => by kernel_rfl,
    v37 := fun _ => by kernel_rfl,
    t70 := by kernel_rfl,
    a70 := fun _ => by kernel_rfl,
    z70 := fun _ => by kernel_rfl,
    v70 := fun _ => by kernel_rfl,
    t72 := by kernel_rfl,
    a72 := fun _ => by kernel_rfl,
    z72 := fun _ => by kernel_rfl,
    v72 := fun _ => by kernel_rfl,
    t127 := by kernel_rfl,
    a127 := fun _ => by kernel_rfl,
    z127 := fun _ => by kernel_rfl,
    v127 := fun _ => by kernel_rfl }
theorem lay170 : Go.Proofs.Lays.n170 Tryz.prog renB :=
  { mixed := by kernel_rfl,
    f170 := by kernel_rfl,
    t0 := by kernel_rfl,
    a0 := fun _ => by kernel_rfl,
    z0 := fun _ => by kernel_rfl,
    v0 := fun _ => by kernel_rfl,
    t3 := by kernel_rfl,
    a3 := fun _ => by kernel_rfl,
    z3 := fun _ => by kernel_rfl,
    v3 := fun _ => by kernel_rfl,
    t37 := by kernel_rfl,
    a37 := fun _ => by kernel_rfl,
    z37 := fun _ => by kernel_rfl,
    v37 := fun _ => by kernel_rfl,
    t70 := by kernel_rfl,
    a70 := fun _ => by kernel_rfl,
    z70 := fun _ => by kernel_rfl,
    v70 := fun _ => by kernel_rfl,
    t72 := by kernel_rfl,
    a72 := fun _ => by kernel_rfl,
    z72 := fun _ => by kernel_rfl,
    v72 := fun _ => by kernel_rfl }

theorem layX : Go.Proofs.Builder.Extra Tryz.prog renB :=
  { sizeBuilder := by kernel_rfl, liesBuilder := by kernel_rfl, t5 := by kernel_rfl, a5 := fun _ => by kernel_rfl, z5 := fun _ => by kernel_rfl, v5 := fun _ => by kernel_rfl, infoByte := by kernel_rfl, cellsByte := by kernel_rfl, sizeByte := by kernel_rfl, neB5 := by decide }

/-- A strings.Builder in memory that holds l. -/
def Bld (B b : Nat) (l : List UInt8) (w : World) : Prop := Lib.IsBuilderF 118 5 B b (Lib.byteCells l) w ∧ B ≤ w.heap.size
/-- What a builder's methods leave: all blocks but its own and rows of bytes. -/
def Oth (b : Nat) (w w' : World) : Prop := Lib.OthersKept 5 (some b) w w'

theorem Oth.blk {b : Nat} {w w' : World} (h : Oth b w w') {k : Nat} {cs : Array Value} {T : TypeId} (hb : Blk w k cs T) (hk : k ≠ b) (hT : T ≠ 5) : Blk w' k cs T := by
  unfold Blk at *
  exact h k _ hb (by simpa using hk) (fun c fz e => hT (by injection e))

theorem Bld.below {B b : Nat} {l : List UInt8} {w w' : World} (h : Bld B b l w) (hB : Below w.heap.size w w') : Bld B b l w' := by
  have one : ∀ p, Lib.BuilderAtF 118 5 B b p (Lib.byteCells l) w → Lib.BuilderAtF 118 5 B b p (Lib.byteCells l) w' := fun p ⟨h1, v, h2, h3, h4⟩ =>
    ⟨h1, v, by rw [hB.block b (Array.getElem?_eq_some_iff.1 h2).1]; exact h2, h3.kept (Below.toGrown hB none) (by cases hv : v.ownBlock <;> simp), h4⟩
  exact ⟨h.1.elim (fun h => .inl (one _ h)) (fun h => .inr (one _ h)), Nat.le_trans h.2 hB.size⟩

theorem Bld.fresh (w : World) : Bld w.heap.size w.heap.size [] (w.alloc (.cells #[.pointer none, .slice none 0 0] 118)) :=
  ⟨Lib.IsBuilderF.of (Lib.fresh_isBuilder _ _ w), by simp⟩
theorem Bld.lt {B b : Nat} {l : List UInt8} {w : World} (h : Bld B b l w) : b < w.heap.size := h.1.elim (fun h => h.lt) (fun h => h.lt)

theorem c_WriteByte (B b : Nat) (l : List UInt8) (c : UInt8) (w : World) (h : Bld B b l w) (hl : l.length ≤ 100000000) :
    Calls Tryz.prog 123 #[.pointer (some ⟨b, 0, none⟩), .int .u8 c.toNat] w fun e w' => e = .returned .nilIface ∧ Bld B b (l ++ [c]) w' ∧ Below B w w' ∧ Oth b w w' := by
  refine (Any.Builder_WriteByte_k lay167 layX B b (Lib.byteCells l) c.toNat w h.1 (by simp [Lib.byteCells]; omega) h.2).mono ?_
  rintro e w' ⟨h1, h2, h3, h4⟩
  refine ⟨h1, ⟨.inr ?_, Nat.le_trans h.2 h3.size⟩, h3, h4⟩
  have : Lib.byteCells (l ++ [c]) = Lib.byteCells l ++ [.int .u8 c.toNat] := by simp [Lib.byteCells]
  rw [this]; exact h2

theorem c_WriteString (B b : Nat) (l s : List UInt8) (w : World) (h : Bld B b l w) (hl : l.length ≤ 100000000) (hs : s.length ≤ 100000000) :
    Calls Tryz.prog 57 #[.pointer (some ⟨b, 0, none⟩), .string (str s)] w fun e w' => ∃ v, e = .returned v ∧ Bld B b (l ++ s) w' ∧ Below B w w' ∧ Oth b w w' := by
  refine (Any.Builder_WriteString_k lay166 layX B b (Lib.byteCells l) (str s) w h.1 (by rw [str_size]; simp [Lib.byteCells]; omega) h.2).mono ?_
  rintro e w' ⟨h1, h2, h3, h4⟩
  refine ⟨_, h1, ⟨.inr ?_, Nat.le_trans h.2 h3.size⟩, h3, h4⟩
  have : Lib.byteCells (l ++ s) = Lib.byteCells l ++ Lib.strCells (str s) := by simp [Lib.byteCells, Lib.strCells, str]
  rw [this]; exact h2

theorem c_Len (B b : Nat) (l : List UInt8) (w : World) (h : Bld B b l w) :
    Calls Tryz.prog 124 #[.pointer (some ⟨b, 0, none⟩)] w fun e w' => e = .returned (.int .i64 l.length) ∧ w' = w := by
  refine (Any.Builder_Len_f lay170 B b (Lib.byteCells l) w h.1).mono ?_
  rintro e w' ⟨h1, h2⟩
  exact ⟨by rw [h1]; simp [Lib.byteCells], h2⟩

theorem c_String (B b : Nat) (l : List UInt8) (w : World) (h : Bld B b l w) :
    Calls Tryz.prog 59 #[.pointer (some ⟨b, 0, none⟩)] w fun e w' => e = .returned (.string (str l)) ∧ Below B w w' :=
  (Any.Builder_String_any_k lay169 layX B b l w h.1 h.2).mono fun _ _ ⟨h1, _, h3, _⟩ => ⟨h1, h3⟩

end Go.Proofs.YtemmepgfngkgmaaGreatDoor
