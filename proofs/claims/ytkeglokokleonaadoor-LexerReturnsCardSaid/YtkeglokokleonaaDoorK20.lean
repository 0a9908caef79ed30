/-
  The reference's Same and Few.
-/
import Derived.Test.YtkeglokokleonaaDoorK12
namespace Go.Proofs.YtkeglokokleonaaDoor
open Go.RowKit

set_option maxRecDepth 100000 in
set_option maxHeartbeats 4000000 in
theorem r_Same (l m : List Tok) (v u : Value) (w : World) (hv : ToksR w v l) (hu : ToksR w u m) :
    Calls Tryd.prog 12 #[v, u] w fun e w' => e = .returned (.bool (decide (l = m))) ∧ Below w.heap.size w w' := by
  obtain ⟨a, cap, rfl, hcap, hcap2, hln, hc⟩ := hv
  obtain ⟨a', cap', rfl, hcap', hcap2', hln', hc'⟩ := hu
  by_cases hne : l.length = m.length
  · have hlm : (((l.length : Nat) : Int) != ((m.length : Nat) : Int)) = false := by rw [hne]; simp
    have HNE := hid hne
    have HL := hid hln
    clear hne hcap hcap2 hcap' hcap2' hln hln'
    go_enter Tryd.func12, Tryd.ntmps12
    go_wp2_with fail
    go_loopw [5] (fun i wr => ∃ k : Nat, k ≤ l.length ∧ i = .int .i64 k ∧ Hid (l.take k = m.take k) ∧ Below w.heap.size w wr) (fun i _ => l.length - (intOf i).toNat)
    case atStart => exact ⟨0, Nat.zero_le _, rfl, rfl, Below.refl _ _⟩
    case round =>
      obtain ⟨k, hk, rfl, HK, hB⟩ := hrel
      by_cases hkt : k < l.length
      · have hkm : k < m.length := by rw [← HNE.out]; exact hkt
        obtain ⟨b, off, rfl, hb, hx⟩ := (hc.below hB).tok (by omega)
        obtain ⟨b', off', rfl, hb', hx'⟩ := (hc'.below hB).tok (by omega)
        obtain ⟨x1, x2, x3⟩ := hx k hkt
        obtain ⟨y1, y2, y3⟩ := hx' k hkm
        clear hx hx'
        have HST : Hid (l[k]?.getD default = m[k]?.getD default → l.take (k + 1) = m.take (k + 1)) := fun h => eqUpto_step hkt hkm HK.out h
        have HNS : Hid (l[k]?.getD default ≠ m[k]?.getD default → false = decide (l = m)) := fun h => by
          symm; rw [decide_eq_false_iff_not]; intro e; exact h (by rw [e])
        generalize l[k]?.getD default = t at *
        generalize m[k]?.getD default = t' at *
        obtain ⟨tk, tt, tp⟩ := t
        obtain ⟨tk', tt', tp'⟩ := t'
        go_wp2_with fail
        let S : World → Prop := fun w' => w' = wr.drew
        (refine wp_region_text 8 [0,1,2,3,4,5,6,7] S (by kernel_rfl) (by kernel_rfl) (by intro _ _ d _ _ h; cases d <;> exact h) ?hS ?_; rotate_left; simp only [List.map_cons, List.map_nil, List.getD_cons_zero, List.getD_cons_succ, List.drop_succ_cons, List.drop_zero])
        case hS => rfl
        (repeat (refine' wpSeq_take rfl _ (by rfl) ?_ ?_; rotate_left; focus (intro w' hS; (try dsimp only at hS); subst hS; go_simp; (first | done | with_reducible rfl)); (try simp only [Act.put, List.setIfInBounds_toArray, List.set_cons_zero, List.set_cons_succ])))
        refine wpSeq_nil ?_
        clear S
        go_wp2_with fail
        · rename_i q1 q2 q3
          have h2 := str_list_inj q2
          have HH : Hid (l.take (k + 1) = m.take (k + 1)) := HST.out (by rw [q1, h2, q3])
          clear q1 q2 q3 h2
          rw [wrapS _ (by have := HL.out; omega)]
          go_roundw
          case rel => exact ⟨k + 1, by omega, by go_num, HH, hB.drew⟩
          case measure => simp [intOf]; omega
        · go_ret
          exact ⟨ret_bool (HNS.out (fun e => by injection e with e1 e2 e3; subst e1 e2 e3; simp_all)), hB.drew⟩
        · go_ret
          exact ⟨ret_bool (HNS.out (fun e => by injection e with e1 e2 e3; subst e1 e2 e3; simp_all)), hB.drew⟩
        · go_ret
          exact ⟨ret_bool (HNS.out (fun e => by injection e with e1 e2 e3; subst e1 e2 e3; simp_all)), hB.drew⟩
      · have hkl : k = l.length := by omega
        have HEQ : Hid (true = decide (l = m)) := by
          have h := HK.out
          rw [hkl] at h
          rw [List.take_length] at h
          have hm : m.take l.length = m := by rw [HNE.out, List.take_length]
          rw [hm] at h
          show _ = _
          simp [h]
        go_wp2_with fail
        go_ret
        exact ⟨ret_bool HEQ.out, hB⟩
  · have hlm : (((l.length : Nat) : Int) != ((m.length : Nat) : Int)) = true := by simp; omega
    have HEQ : Hid (false = decide (l = m)) := by
      show _ = _; symm; rw [decide_eq_false_iff_not]; intro e; exact hne (by rw [e])
    clear hne
    go_enter Tryd.func12, Tryd.ntmps12
    go_wp2_with fail
    go_ret
    exact ⟨ret_bool HEQ.out, Below.refl _ _⟩

/-- What few tokens are. -/
def FewT (l : List Tok) : Prop := l.length ≤ 4097 → l.length ≤ 200 ∧ ∀ k : Nat, (l[k]?.getD default).text.length ≤ 2048

def RetFew (l : List Tok) (w : World) (e : Ending) (w' : World) : Prop := ∃ b, e = .returned (.bool b) ∧ (b = true → FewT l) ∧ w' = w

set_option maxRecDepth 100000 in
set_option maxHeartbeats 4000000 in
theorem r_Few (l : List Tok) (v : Value) (w : World) (hv : ToksR w v l) :
    Calls Tryd.prog 13 #[v] w (RetFew l w) := by
  obtain ⟨a, cap, rfl, hcap, hcap2, hln, hc⟩ := hv
  have HLN := hid hln
  clear hcap hcap2 hln
  by_cases h200 : (200 : Int) < (l.length : Int)
  · have HQ : Hid (4097 < l.length → FewT l) := fun h h2 => by omega
    by_cases h4 : (4097 : Int) < (l.length : Int)
    · go_enter Tryd.func13, Tryd.ntmps13
      go_wp2_with fail
      go_ret
      exact ⟨_, rfl, (fun _ => HQ.out (by omega)), rfl⟩
    · go_enter Tryd.func13, Tryd.ntmps13
      go_wp2_with fail
      go_ret
      exact ⟨false, rfl, (fun h => by cases h), rfl⟩
  · have HN : Hid (l.length ≤ 200) := by show _ ≤ _; omega
    go_enter Tryd.func13, Tryd.ntmps13
    go_wp2_with fail
    go_loopw [3] (fun i wr => ∃ k : Nat, k ≤ l.length ∧ i = .int .i64 k ∧ Hid (∀ j : Nat, j < k → (l[j]?.getD default).text.length ≤ 2048) ∧ wr = w) (fun i _ => l.length - (intOf i).toNat)
    case atStart => exact ⟨0, Nat.zero_le _, rfl, fun j hj => by omega, rfl⟩
    case round =>
      obtain ⟨k, hk, rfl, HA, rfl⟩ := hrel
      by_cases hkt : k < l.length
      · obtain ⟨b, off, rfl, hb, hx⟩ := hc.tok (by omega)
        obtain ⟨x1, x2, x3⟩ := hx k hkt
        have HNX : Hid ((l[k]?.getD default).text.length ≤ 2048 → ∀ j : Nat, j < k + 1 → (l[j]?.getD default).text.length ≤ 2048) := fun h j hj => by
          by_cases hjk : j = k
          · rw [hjk]; exact h
          · exact HA.out j (by omega)
        have hss := str_size (l[k]?.getD default).text
        generalize (l[k]?.getD default).text = tx at *
        have HSS := hid hss
        clear hss hx x1 x3 HA
        by_cases q1 : (30 : Int) < ((str tx).size : Int)
        · by_cases q2 : ((str tx).size : Int) ≤ 1024
          · go_wp2_with fail
            go_ret
            exact ⟨false, rfl, (fun h => by cases h), rfl⟩
          · by_cases q3 : (2048 : Int) < ((str tx).size : Int)
            · go_wp2_with fail
              go_ret
              exact ⟨false, rfl, (fun h => by cases h), rfl⟩
            · have HH := hid (HNX.out (by have := HSS.out; omega))
              go_wp2_with fail
              go_roundw
              case rel => exact ⟨k + 1, by omega, by go_num, HH, trivial⟩
              case measure => simp [intOf]; omega
        · have q3 : ¬ (2048 : Int) < ((str tx).size : Int) := by omega
          have HH := hid (HNX.out (by have := HSS.out; omega))
          go_wp2_with fail
          go_roundw
          case rel => exact ⟨k + 1, by omega, by go_num, HH, trivial⟩
          case measure => simp [intOf]; omega
      · have hkl : k = l.length := by omega
        have HF : Hid (FewT l) := fun _ => ⟨HN.out, fun j => by
          by_cases hj : j < l.length
          · exact HA.out j (by omega)
          · rw [List.getElem?_eq_none (by omega)]; exact Nat.zero_le _⟩
        clear HA
        go_wp2_with fail
        go_ret
        exact ⟨true, rfl, (fun _ => HF.out), rfl⟩

end Go.Proofs.YtkeglokokleonaaDoor
