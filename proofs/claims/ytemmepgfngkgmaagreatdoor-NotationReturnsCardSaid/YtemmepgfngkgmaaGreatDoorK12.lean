/-
  slices.Equal of tokens: whether two lists of tokens are equal.
-/
import Derived.Test.YtemmepgfngkgmaaGreatDoorK4
namespace Go.Proofs.YtemmepgfngkgmaaGreatDoor
open Go.RowKit

theorem ToksR.bound {w : World} {v : Value} {l : List Tok} (h : ToksR w v l) : l.length ≤ 4398046511104 := by obtain ⟨_, _, _, _, _, h, _⟩ := h; omega
theorem ToksR.at' {w : World} {v : Value} {l : List Tok} (h : ToksR w v l) (k : Nat) (hk : k < l.length) :
    ∃ b off cap, v = .slice (some ⟨b, off, none⟩) l.length cap ∧ b < w.heap.size ∧ w.cell? ⟨b, off + k * 3, none⟩ = some (.int .i64 (l[k]?.getD default).kind) ∧
      w.cell? ⟨b, off + k * 3 + 1, none⟩ = some (.string (str (l[k]?.getD default).text)) ∧ w.cell? ⟨b, off + k * 3 + 2, none⟩ = some (.int .i64 (l[k]?.getD default).pos) := by
  obtain ⟨a, cap, rfl, _, _, _, hc⟩ := h
  obtain ⟨b, off, rfl, hb, hx⟩ := hc.tok (by omega)
  obtain ⟨h1, h2, h3⟩ := hx k hk
  exact ⟨b, off, cap, rfl, hb, h1, h2, h3⟩

theorem str_list_inj {t t' : List UInt8} (h : (str t).toList = (str t').toList) : t = t' := by
  rw [ByteArray.toList_eq, ByteArray.toList_eq] at h; exact h

theorem eqUpto_step {l m : List Tok} {k : Nat} (hl : k < l.length) (hm : k < m.length) (h : l.take k = m.take k) (he : l[k]?.getD default = m[k]?.getD default) : l.take (k + 1) = m.take (k + 1) := by
  rw [List.take_succ_eq_append_getElem hl, List.take_succ_eq_append_getElem hm, h]
  simp only [hl, hm, List.getElem?_eq_getElem, Option.getD_some] at he
  rw [he]

end Go.Proofs.YtemmepgfngkgmaaGreatDoor
