/-
  slices.Clone of tokens, and bare: tokens without offsets.
-/
import Derived.Test.YtkeglokokleonaaDoorKG
import Derived.Lib.SliceRun
namespace Go.Proofs.YtkeglokokleonaaDoor
open Go.RowKit

theorem tokCells_app (a b : List Tok) : tokCells (a ++ b) = tokCells a ++ tokCells b := by simp [tokCells]
theorem tokCells_one (l : List Tok) : ∀ u ∈ tokCells l, u.oneCell' = true := by
  intro u hu
  obtain ⟨x, _, hx⟩ := List.mem_flatMap.1 hu
  simp [Tok.cells] at hx
  rcases hx with rfl | rfl | rfl <;> rfl

/-- The first k tokens without offsets, the others as they are. -/
def bareUpto (l : List Tok) (k : Nat) : List Tok := (l.take k).map Tok.bare ++ l.drop k
theorem bareUpto_len (l : List Tok) (k : Nat) : (bareUpto l k).length = l.length := by simp [bareUpto]; omega
theorem bareUpto_zero (l : List Tok) : bareUpto l 0 = l := by simp [bareUpto]
theorem bareUpto_all (l : List Tok) (k : Nat) (h : k = l.length) : bareUpto l k = l.map Tok.bare := by subst h; simp [bareUpto]
theorem bareUpto_set (l : List Tok) (k : Nat) (hk : k < l.length) : (tokCells (bareUpto l k)).set (k * 3 + 2) (.int .i64 0) = tokCells (bareUpto l (k + 1)) := by
  have e1 : l.drop k = l[k] :: l.drop (k + 1) := List.drop_eq_getElem_cons hk
  have e2 : l.take (k + 1) = l.take k ++ [l[k]] := List.take_succ_eq_append_getElem hk
  unfold bareUpto
  rw [e1, e2, List.map_append, List.append_assoc, tokCells_app, tokCells_app]
  have hl : (tokCells ((l.take k).map Tok.bare)).length = k * 3 := by rw [tokCells_length]; simp; omega
  rw [List.set_append_right _ _ (by omega), hl, show k * 3 + 2 - k * 3 = 2 by omega]
  congr 1

theorem CellsAt.newsA {w : World} {a : Addr} {cs : List Value} (h : CellsAt w (some a) cs) (j : Nat) (u : Value) (hj : cs[j]? = some u) : w.cell? (a.add j) = some u := by
  rcases h with h | ⟨b', off', e, hl, hc⟩
  · subst h; simp at hj
  · injection e with e
    subst e
    exact CellsAt.news (.inr ⟨b', off', rfl, hl, hc⟩) j u hj

set_option maxRecDepth 100000 in
set_option maxHeartbeats 2000000 in
theorem c_CloneT (l : List Tok) (v : Value) (w : World) (hv : ToksR w v l) :
    Calls Tryd.prog 44 #[v] w fun e w' => ∃ v', e = .returned v' ∧ w'.ownsRow w.heap.size 40 3 v' l.length (tokCells l) ∧ Below w.heap.size w w' := by
  obtain ⟨a, cap, rfl, _, _, hln, hc⟩ := hv
  have qT : ∀ (w : World) (a : Option Addr) (n c n' c' : Nat), (binOp .eql 23 (.slice a n c) (.slice none n' c')).run Tryd.prog w = .ok (.bool a.isNone) w := fun w a n c n' c' => Lib.run_eql_slice_nil w 23 40 a n c n' c' Tryd.underToks
  cases a with
  | none =>
    have h0 : l = [] := by
      rcases hc with h | ⟨b, off, h, _⟩
      · have := congrArg List.length h; rw [tokCells_length] at this; simp only [List.length_nil] at this; exact List.eq_nil_of_length_eq_zero (by omega)
      · simp at h
    subst h0
    clear hc
    go_enter Tryd.func44, Tryd.ntmps44
    clear hln
    go_wp2_with fail
    go_ret
    exact ⟨_, rfl, ⟨rfl, .inl ⟨rfl, rfl⟩⟩, Below.refl _ _⟩
  | some a =>
    have HC := hid hc
    have HL := hid hln
    clear hc hln
    obtain ⟨i, hi, hz, hsz, hby⟩ := info_parts Tryd.infoTok
    go_enter Tryd.func44, Tryd.ntmps44
    go_wp2_with (at_builtin; refine wpList_append_own _ rfl _ _ 23 rfl w.heap.size 40 i _ 3 32 Tryd.underToks hi hz hsz hby rfl (by decide) _ _ _ rfl (World.ownsRow_made w #[] 0 (Nat.le_refl _) (Nat.zero_le _) (by simp)) a l.length cap (tokCells l) rfl ?qc1 ?qc2 ?qc3 ?qc4 ?qc5 ?qc6 ?_)
    case qc1 => exact tokCells_length l
    case qc2 => exact fun j u hj => (HC.out.below ((Below.refl _ _).alloc (Nat.le_refl _) _)).newsA j u hj
    case qc3 => exact tokCells_one l
    case qc4 => have := HL.out; unfold maxLen; omega
    case qc5 => have := HL.out; omega
    case qc6 => simp
    intro v' w1 hown hgrow hnil
    go_wp2_with fail
    go_ret
    refine ⟨v', rfl, by simpa using hown, ?_⟩
    exact ((Below.refl _ w).alloc (Nat.le_refl _) _).grown hgrow (by simp) (by intro k hk; simp [Value.ownBlock] at hk; omega)

theorem owns_bare {w : World} {base : Nat} {e : TypeId} {v : Value} {l : List Tok} (h : w.ownsRow base e 3 v l.length (tokCells (l.map Tok.bare))) (hb : l.length * 32 ≤ 140737488355328) : ToksR w v (l.map Tok.bare) :=
  owns_toks (by rw [List.length_map]; exact h) (by rw [List.length_map]; exact hb)
theorem owns_sl {w : World} {base : Nat} {e : TypeId} {size : Nat} {v : Value} {n : Nat} {xs : List Value} (h : w.ownsRow base e size v n xs) : ∃ a cap, v = .slice a n cap := by
  rcases h.2 with ⟨rfl, rfl⟩ | ⟨g, cap, cur, rfl, _⟩
  · exact ⟨_, _, rfl⟩
  · exact ⟨_, _, rfl⟩

set_option maxRecDepth 100000 in
set_option maxHeartbeats 2000000 in
theorem c_bare (l : List Tok) (v : Value) (w : World) (hv : ToksR w v l) (hl5 : l.length ≤ 5000) :
    Calls Tryd.prog 22 #[v] w fun e w' => ∃ v', e = .returned v' ∧ ToksR w' v' (l.map Tok.bare) ∧ Below w.heap.size w w' := by
  have hC := hid (c_CloneT l v w hv)
  obtain ⟨a0, cap0, rfl, _⟩ := hv
  go_enter Tryd.func22, Tryd.ntmps22
  go_wp2_with fail
  refine hC.out.mono ?_
  rintro e w1 ⟨v', rfl, hown, hB1⟩
  obtain ⟨a, cap, rfl⟩ := owns_sl hown
  have HO := hid hown
  have HN : Hid (l.length ≤ 5000) := hl5
  clear hown hl5
  go_simp
  go_wp2_with fail
  go_loopw [9] (fun i wr => ∃ k : Nat, k ≤ l.length ∧ i = .int .i64 k ∧ Hid (wr.ownsRow w.heap.size 40 3 (.slice a l.length cap) l.length (tokCells (bareUpto l k))) ∧ Below w.heap.size w wr) (fun i _ => l.length - (intOf i).toNat)
  case atStart => exact ⟨0, Nat.zero_le _, rfl, by rw [bareUpto_zero]; exact HO, hB1⟩
  case round =>
    obtain ⟨k, hk, rfl, HW, hB⟩ := hrel
    by_cases hkt : k < l.length
    · obtain ⟨g, cap', hsl, hg1, hg2⟩ := owns_some HW.out (by omega)
      injection hsl with hs1 _ hs3
      subst hs1 hs3
      obtain ⟨u, hcell⟩ : ∃ u, wr.cell? ⟨g, k * 3 + 2, none⟩ = some u := by
        rw [HW.out.cellAt (k * 3 + 2) (by omega)]
        exact ⟨_, List.getElem?_eq_getElem (by rw [tokCells_length, bareUpto_len]; omega)⟩
      have hfr := HW.out.frozenAt (k * 3 + 2)
      go_wp2_with fail
      refine ⟨⟨k + 1, by omega, by simp, ?_, hB.setCell hg1 _⟩, by simp [intOf]; omega⟩
      have := (HW.out.stored (k * 3 + 2) (.int .i64 0)).1
      rw [bareUpto_set l k hkt] at this
      exact this
    · go_wp2_with fail
      go_ret
      refine ⟨_, rfl, ?_, hB⟩
      have := HW.out
      rw [bareUpto_all l k (by omega)] at this
      exact owns_bare this (by have := HN.out; omega)

end Go.Proofs.YtkeglokokleonaaDoor
