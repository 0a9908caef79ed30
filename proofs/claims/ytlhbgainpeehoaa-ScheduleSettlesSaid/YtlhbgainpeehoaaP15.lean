/-
  Contracts of the library: slices.Delete (by the kit's), bits.Mul at (1, n), slices.Repeat of one element.
-/
import Derived.Test.YtlhbgainpeehoaaP14
import Derived.Shelf.Slices.Delete
import Derived.Lib.OwnBridge
namespace Go.Proofs.Ytlhbgainpeehoaa
open Go.RowKit

def renDel : Go.Shelf.Ren := ⟨fun | 23 => 150 | n => n, fun | 0 => 0 | 3 => 3 | 4 => 4 | 22 => 25 | n => n, fun n => n⟩
theorem layDel : Go.Proofs.Lays2.n23 Try.prog renDel :=
  { mixed := by kernel_rfl, f23 := by kernel_rfl, t0 := by kernel_rfl, a0 := fun _ => by kernel_rfl, z0 := fun _ => by kernel_rfl, v0 := fun _ => by kernel_rfl
    t3 := by kernel_rfl, a3 := fun _ => by kernel_rfl, z3 := fun _ => by kernel_rfl, v3 := fun _ => by kernel_rfl
    t4 := by kernel_rfl, a4 := fun _ => by kernel_rfl, z4 := fun _ => by kernel_rfl, v4 := fun _ => by kernel_rfl
    t22 := by kernel_rfl, a22 := fun _ => by kernel_rfl, z22 := fun _ => by kernel_rfl, v22 := fun _ => by kernel_rfl, i3 := by kernel_rfl }

/-- slices.Delete(s, i, i + 1) of a row that is owned. -/
theorem c_Delete (zs : List Int) (g cap i base : Nat) (w : World) (ho : w.ownsRow base 3 1 (.slice (some ⟨g, 0, none⟩) zs.length cap) zs.length (zs.map (Value.int .i64))) (hi : i < zs.length) :
    Calls Try.prog 150 #[.slice (some ⟨g, 0, none⟩) zs.length cap, .int .i64 i, .int .i64 (i + 1 : Nat)] w fun e w' => e = .returned (.slice (some ⟨g, 0, none⟩) (zs.length - 1) cap) ∧
      w'.ownsRow base 3 1 (.slice (some ⟨g, 0, none⟩) (zs.length - 1) cap) (zs.length - 1) ((zs.eraseIdx i).map (Value.int .i64)) ∧ KeptB w w' (fun k => k = g) ∧ (∀ W0 : World, ∀ B, Below B W0 w → B ≤ g → Below B W0 w') := by
  obtain ⟨g', cap', he, hb, hlt, hn, hm, _, hH⟩ := Go.Lib.holds_of_ownsRow ho (by simp)
  injection he with h1 _ h2
  injection h1 with h1
  injection h1 with h1
  subst h1; subst h2
  refine (Any.slices_Delete_int layDel g 0 cap i (i + 1) zs w hH hn (by unfold maxLen at hm; omega) (by omega) (by omega)).mono ?_
  rintro e w' ⟨rfl, q, rfl⟩
  have hl : (zs.take i ++ zs.drop (i + 1) ++ List.replicate (i + 1 - i) 0).length = zs.length := by simp; omega
  have h2 := Go.Lib.ownsRow_putRow (q := q) (k := zs.length - 1) ho hl (by omega)
  refine ⟨by rw [show i + 1 - i = 1 by omega], ?_, ?_, fun W0 B h hBg => Go.Lib.below_putRow h hBg⟩
  · have e1 : (zs.take i ++ zs.drop (i + 1) ++ List.replicate (i + 1 - i) 0).take (zs.length - 1) = zs.eraseIdx i := by
      rw [List.eraseIdx_eq_take_drop_succ, List.take_left' (by simp; omega)]
    rw [e1] at h2
    exact h2
  · have hB := Go.Lib.below_putRow (enc := Value.int .i64) (q := q) (d := (zs.take i ++ zs.drop (i + 1) ++ List.replicate (i + 1 - i) 0).toArray) (Below.refl 0 w) (Nat.zero_le g)
    refine ⟨hB.size, fun k hk hne => ?_⟩
    have hne' : ¬ k = g := hne
    simp [Go.Sort.putRow, Go.Sort.mapBlock, Go.Sort.ahead, Array.getElem?_modify, Ne.symm hne']

end Go.Proofs.Ytlhbgainpeehoaa
