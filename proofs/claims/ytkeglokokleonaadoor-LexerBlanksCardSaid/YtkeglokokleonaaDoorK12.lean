/-
  slices.Equal of tokens: whether two lists of tokens are equal.
-/
import Derived.Test.YtkeglokokleonaaDoorK4
namespace Go.Proofs.YtkeglokokleonaaDoor
open Go.RowKit

theorem ToksR.bound {w : World} {v : Value} {l : List Tok} (h : ToksR w v l) : l.length ≤ 4398046511104 := by obtain ⟨_, _, _, _, _, h, _⟩ := h; omega
theorem ToksR.at' {w : World} {v : Value} {l : List Tok} (h : ToksR w v l) (k : Nat) (hk : k < l.length) :
    ∃ b off cap, v = .slice (some ⟨b, off, none⟩) l.length cap ∧ b < w.heap.size ∧ w.cell? ⟨b, off + k * 3, none⟩ = some (.int .i64 (l[k]?.getD default).kind) ∧
      w.cell? ⟨b, off + k * 3 + 1, none⟩ = some (.string (str (l[k]?.getD default).text)) ∧ w.cell? ⟨b, off + k * 3 + 2, none⟩ = some (.int .i64 (l[k]?.getD default).pos) := by
  obtain ⟨a, cap, rfl, _, _, _, hc⟩ := h
  obtain ⟨b, off, rfl, hb, hx⟩ := hc.tok (by omega)
  obtain ⟨h1, h2, h3⟩ := hx k hk
  exact ⟨b, off, cap, rfl, hb, h1, h2, h3⟩

theorem str_list_inj {t t' : List UInt8} (h : (str t).toList = (str t').toList) : t = t' := by
  rw [ByteArray.toList_eq, ByteArray.toList_eq] at h; exact h

theorem eqUpto_step {l m : List Tok} {k : Nat} (hl : k < l.length) (hm : k < m.length) (h : l.take k = m.take k) (he : l[k]?.getD default = m[k]?.getD default) : l.take (k + 1) = m.take (k + 1) := by
  rw [List.take_succ_eq_append_getElem hl, List.take_succ_eq_append_getElem hm, h]
  simp only [hl, hm, List.getElem?_eq_getElem, Option.getD_some] at he
  rw [he]

set_option maxRecDepth 100000 in
set_option maxHeartbeats 4000000 in
theorem c_Equal (l m : List Tok) (v u : Value) (w : World) (hv : ToksR w v l) (hu : ToksR w u m) :
    Calls Tryd.prog 21 #[v, u] w fun e w' => e = .returned (.bool (decide (l = m))) ∧ Below w.heap.size w w' := by
  obtain ⟨a, cap, rfl, hcap, hcap2, hln, hc⟩ := hv
  obtain ⟨a', cap', rfl, hcap', hcap2', hln', hc'⟩ := hu
  by_cases hne : l.length = m.length
  · have hlm : (((l.length : Nat) : Int) != ((m.length : Nat) : Int)) = false := by rw [hne]; simp
    have HNE := hid hne
    have HL := hid hln
    clear hne hcap hcap2 hcap' hcap2' hln hln'
    go_enter Tryd.func21, Tryd.ntmps21
    go_wp2_with fail
    go_loopw [13] (fun i wr => ∃ k : Nat, k ≤ l.length ∧ i = .int .i64 k ∧ Hid (l.take k = m.take k) ∧ Below w.heap.size w wr) (fun i _ => l.length - (intOf i).toNat)
    case atStart => exact ⟨0, Nat.zero_le _, rfl, rfl, Below.refl _ _⟩
    case round =>
      obtain ⟨k, hk, rfl, HK, hB⟩ := hrel
      by_cases hkt : k < l.length
      · have hkm : k < m.length := by rw [← HNE.out]; exact hkt
        obtain ⟨b, off, rfl, hb, hx⟩ := (hc.below hB).tok (by omega)
        obtain ⟨b', off', rfl, hb', hx'⟩ := (hc'.below hB).tok (by omega)
        obtain ⟨x1, x2, x3⟩ := hx k hkt
        obtain ⟨y1, y2, y3⟩ := hx' k hkm
        clear hx hx'
        have HST : Hid (l[k]?.getD default = m[k]?.getD default → l.take (k + 1) = m.take (k + 1)) := fun h => eqUpto_step hkt hkm HK.out h
        have HNS : Hid (l[k]?.getD default ≠ m[k]?.getD default → false = decide (l = m)) := fun h => by
          symm; rw [decide_eq_false_iff_not]; intro e; exact h (by rw [e])
        generalize l[k]?.getD default = t at *
        generalize m[k]?.getD default = t' at *
        obtain ⟨tk, tt, tp⟩ := t
        obtain ⟨tk', tt', tp'⟩ := t'
        go_wp2_with fail
        let S : World → Prop := fun w' => w' = wr.drew
        (refine wp_region_text 8 [0,1,2,3,4,5,6,7] S (by kernel_rfl) (by kernel_rfl) (by intro _ _ d _ _ h; cases d <;> exact h) ?hS ?_; rotate_left; simp only [List.map_cons, List.map_nil, List.getD_cons_zero, List.getD_cons_succ, List.drop_succ_cons, List.drop_zero])
        case hS => rfl
        (repeat (refine' wpSeq_take rfl _ (by rfl) ?_ ?_; rotate_left; focus (intro w' hS; (try dsimp only at hS); subst hS; go_simp; (first | done | with_reducible rfl)); (try simp only [Act.put, List.setIfInBounds_toArray, List.set_cons_zero, List.set_cons_succ])))
        refine wpSeq_nil ?_
        clear S
        go_wp2_with fail
        · rename_i q1 q2 q3
          have h2 := str_list_inj q2
          have HH : Hid (l.take (k + 1) = m.take (k + 1)) := HST.out (by rw [q1, h2, q3])
          clear q1 q2 q3 h2
          rw [wrapS _ (by have := HL.out; omega)]
          go_roundw
          case rel => exact ⟨k + 1, by omega, by go_num, HH, hB.drew⟩
          case measure => simp [intOf]; omega
        · go_ret
          exact ⟨ret_bool (HNS.out (fun e => by injection e with e1 e2 e3; subst e1 e2 e3; simp_all)), hB.drew⟩
        · go_ret
          exact ⟨ret_bool (HNS.out (fun e => by injection e with e1 e2 e3; subst e1 e2 e3; simp_all)), hB.drew⟩
        · go_ret
          exact ⟨ret_bool (HNS.out (fun e => by injection e with e1 e2 e3; subst e1 e2 e3; simp_all)), hB.drew⟩
      · have hkl : k = l.length := by omega
        have HEQ : Hid (true = decide (l = m)) := by
          have h := HK.out
          rw [hkl] at h
          rw [List.take_length] at h
          have hm : m.take l.length = m := by rw [HNE.out, List.take_length]
          rw [hm] at h
          show _ = _
          simp [h]
        go_wp2_with fail
        go_ret
        exact ⟨ret_bool HEQ.out, hB⟩
  · have hlm : (((l.length : Nat) : Int) != ((m.length : Nat) : Int)) = true := by simp; omega
    have HEQ : Hid (false = decide (l = m)) := by
      show _ = _; symm; rw [decide_eq_false_iff_not]; intro e; exact hne (by rw [e])
    clear hne
    go_enter Tryd.func21, Tryd.ntmps21
    go_wp2_with fail
    go_ret
    exact ⟨ret_bool HEQ.out, Below.refl _ _⟩

end Go.Proofs.YtkeglokokleonaaDoor
