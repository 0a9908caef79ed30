/-
  LexerPlaces: the law's walk.
-/
import Derived.Test.YtkeglokokleonaaDoorKG
import Derived.Shelf.Strings.Prefix
namespace Go.Proofs.YtkeglokokleonaaDoor
open Go.RowKit

def renP : Go.Shelf.Ren := ⟨fun | 99 => 20 | 206 => 43 | n => n, fun | 3 => 3 | 4 => 4 | 9 => 9 | n => n, fun | n => n⟩
theorem lay99 : Go.Proofs.Lays.n99 Tryd.prog renP :=
  { mixed := by kernel_rfl,
    f99 := by kernel_rfl,
    f206 := by kernel_rfl,
    t3 := by kernel_rfl,
    a3 := fun _ => by kernel_rfl,
    z3 := fun _ => by kernel_rfl,
    v3 := fun _ => by kernel_rfl,
    t4 := by kernel_rfl,
    a4 := fun _ => by kernel_rfl,
    z4 := fun _ => by kernel_rfl,
    v4 := fun _ => by kernel_rfl,
    t9 := by kernel_rfl,
    a9 := fun _ => by kernel_rfl,
    z9 := fun _ => by kernel_rfl,
    v9 := fun _ => by kernel_rfl }

theorem pre_take (s t : List UInt8) (h : s.take t.length = t) : Lib.hasPrefix s t = true := by
  unfold Lib.hasPrefix
  rw [List.isPrefixOf_iff_prefix]
  exact ⟨s.drop t.length, by conv => rhs; rw [← List.take_append_drop t.length s, h]⟩

theorem blanks_trim (l : List UInt8) (h : ∀ c ∈ l, c = 32) : Lib.trimS l [32] = [] := by
  rw [trimS_nil, List.all_eq_true]
  intro c hc
  rw [h c hc]; rfl

set_option maxRecDepth 100000 in
set_option maxHeartbeats 8000000 in
theorem l_Places (s : List UInt8) (w : World) : Calls Tryd.prog 6 #[.string (str s)] w fun e w' => e = .returned (.bool true) ∧ Below w.heap.size w w' := by
  have hD := hid l_awake
  have hsz := str_size s
  by_cases q : (1500 : Int) < ((str s).size : Int)
  · clear hsz
    go_enter Tryd.func6, Tryd.ntmps6
    go_wp2_with fail
    refine (hD.out _).mono ?_
    rintro e w1 ⟨rfl, hB⟩
    go_simp
    go_wp2_with fail
    go_ret
    exact ⟨rfl, hB⟩
  · have hG := hid (got_p s w)
    have hl4 : s.length ≤ 4096 := by omega
    cases hz : scanR s with
    | inl x =>
      have hx := scanR_err hz
      have hat : 0 ≤ x.1 ∧ x.1 < s.length := by
        have h := hz
        unfold scanR at h
        rw [if_neg (by omega)] at h
        have := scan_err_at (s.length + 1) s 0 x (by omega) h
        omega
      rw [hz] at hG
      obtain ⟨x1, x2⟩ := x
      have hx' : (x2 != 0) = true := by simpa using hx
      have h0 : 0 ≤ x1 := hat.1
      have h1 : x1 < ((str s).size : Int) := by rw [hsz]; exact hat.2
      clear hx hz hat hsz hl4
      go_enter Tryd.func6, Tryd.ntmps6
      go_wp2_with fail
      refine hG.out.mono ?_
      rintro e w1 ⟨v, rfl, hv, hB⟩
      obtain ⟨a, cap, rfl, _⟩ := hv
      simp only [Scn.at', Scn.no, Scn.toks, List.length_nil]
      go_simp
      go_wp2_with fail
      refine (hD.out _).mono ?_
      rintro e w2 ⟨rfl, hB2⟩
      go_simp
      go_wp2_with fail
      go_ret
      exact ⟨rfl, up hB hB2⟩
    | inr l =>
      have hpl := scan_places s (s.length + 1) s 0 0 l (by omega) rfl (Nat.le_refl _) (Nat.zero_le _) (fun j h1 h2 => by omega) (scanR_fuel hz).2
      rw [hz] at hG
      have HPL : Hid (PlcAll s 0 (l.drop 0)) := hpl
      have HL4 := hid hl4
      have HSZ := hid hsz
      have hcn := scanR_count s
      rw [hz] at hcn
      have HCN : Hid (l.length ≤ 4097) := hcn
      clear hz hpl hl4 hsz hcn
      go_enter Tryd.func6, Tryd.ntmps6
      go_wp2_with fail
      refine hG.out.mono ?_
      rintro e w1 ⟨v, rfl, hv, hB⟩
      obtain ⟨a, cap, rfl, hcap, hcap2, hln, hc⟩ := (show ToksR w1 v l from hv)
      simp only [Scn.at', Scn.no]
      clear hcap hcap2 hln hv
      go_simp
      go_wp2_with fail
      go_loopw [6, 39] (fun e i wr => ∃ (k en : Nat), k ≤ l.length ∧ e = .int .i64 en ∧ i = .int .i64 k ∧ Hid (PlcAll s en (l.drop k)) ∧ Below w1.heap.size w1 wr) (fun _ i _ => l.length - (intOf i).toNat)
      case atStart => exact ⟨0, 0, Nat.zero_le _, rfl, rfl, HPL, Below.refl _ _⟩
      case round =>
        clear HPL
        obtain ⟨k, en, hk, rfl, rfl, HP, hBB⟩ := hrel
        by_cases hkt : k < l.length
        · obtain ⟨b, off, rfl, hb, hx⟩ := (hc.below hBB).tok (by omega)
          obtain ⟨x1, x2, x3⟩ := hx k hkt
          have hpl := HP.out
          rw [drop_tok hkt] at hpl
          obtain ⟨p, hp1, hp2, hp3, hp4, hp5, hp6, hp7⟩ := hpl
          have hlast : ((l[k]?.getD default).kind = 3 ↔ k + 1 = l.length) := by
            rw [hp6, List.drop_eq_nil_iff]; omega
          rw [hp1] at x3
          generalize (l[k]?.getD default).kind = kd at *
          generalize (l[k]?.getD default).text = tx at *
          have hsub : Hid ((str s).extract en p = str ((s.drop en).take (p - en))) := str_extract s en p
          have hrest : Hid ((str s).extract p (str s).size = str (s.drop p)) := by
            show _ = _; rw [str_extract, HSZ.out, List.take_of_length_le (by rw [List.length_drop]; omega)]
          have hbl : Lib.trimS ((s.drop en).take (p - en)) [32] = [] := blanks_trim _ fun c hc => by
            obtain ⟨i, hi, he⟩ := List.getElem_of_mem hc
            rw [List.length_take, List.length_drop] at hi
            have h32 := hp4 (en + i) (by omega) (by omega)
            rw [List.getElem_take, List.getElem_drop] at he
            rw [List.getElem?_eq_getElem (by omega)] at h32
            injection h32 with h32
            rw [← he, h32]
          have HTR : Hid (∀ w, Calls Tryd.prog 19 #[.string (str ((s.drop en).take (p - en))), .string (str [32])] w fun e w' => e = .returned (.string (str [])) ∧ Below w.heap.size w w') := fun w => by
            have := c_Trim ((s.drop en).take (p - en)) [32] w (by rw [List.length_take, List.length_drop]; have := HL4.out; omega) (by decide) (by decide)
            rw [hbl] at this
            exact this
          have HPX : Hid (∀ w, Calls Tryd.prog 20 #[.string (str (s.drop p)), .string (str tx)] w fun e w' => e = .returned (.bool true) ∧ w' = w) := fun w => by
            have := Any.strings_HasPrefix lay99 (str (s.drop p)) (str tx) w
            rw [str_data, str_data, pre_take _ _ hp5] at this
            exact this
          have HNX := hid hp7
          have htx := str_size tx
          have HTX := hid htx
          have HPP := hid (And.intro hp2 hp3)
          have e0 : (str []).toList.isEmpty = true := isE_str [] rfl
          have hpz : p ≤ (str s).size := by rw [HSZ.out]; omega
          have d0 : decide ((p : Int) < (en : Int)) = false := decide_eq_false (by omega)
          have d1 : decide (((str s).size : Int) < (p : Int)) = false := decide_eq_false (by omega)
          have d2 : decide (p < en) = false := decide_eq_false (by omega)
          have d3 : decide ((str s).size < p) = false := decide_eq_false (by omega)
          have hlb : ((k : Int) == (l.length : Int) - 1) = (kd == 3) := by
            rw [Bool.eq_iff_iff, beq_iff_eq, beq_iff_eq, hlast]; omega
          have hfin : (!((kd == 3) == ((k : Int) == (l.length : Int) - 1))) = false := by rw [hlb]; cases (kd == 3) <;> rfl
          have hnb : (l.length : Int) ≤ 4097 := by have := HCN.out; omega
          have HKL := hid hkt
          clear hp1 hp4 hp5 hp6 hp7 hlast hbl htx HP hx
          clear hlb
          go_wp2_with fail
          obtain ⟨W, hW⟩ : ∃ W, W = wr.alloc (.cells #[.int .i64 kd, .string (str tx), .int .i64 p] 40) := ⟨_, rfl⟩
          rw [← hW]
          have hWB : Below wr.heap.size wr W := by rw [hW]; exact (Below.refl _ _).alloc (Nat.le_refl _) _
          have hWs : wr.heap.size < W.heap.size := by rw [hW]; simp
          have hc3 := cell_new3 wr (.int .i64 kd) (.string (str tx)) (.int .i64 p) 40
          rw [← hW] at hc3
          have HC : Hid (∀ w', Below W.heap.size W w' → w'.cell? ⟨wr.heap.size, 0, none⟩ = some (.int .i64 kd) ∧ w'.cell? ⟨wr.heap.size, 1, none⟩ = some (.string (str tx)) ∧ w'.cell? ⟨wr.heap.size, 2, none⟩ = some (.int .i64 p) ∧ wr.heap.size < w'.heap.size) := fun w' h => by
            obtain ⟨q1, _⟩ := bcell h
            exact ⟨(q1 _ _ hWs).trans hc3.1, (q1 _ _ hWs).trans hc3.2.1, (q1 _ _ hWs).trans hc3.2.2, Nat.lt_of_lt_of_le hWs h.size⟩
          have HBB := hid (up hBB hWB)
          clear hc3 hWs hWB hBB x1 x2 x3 hW hb hc
          let S : World → Prop := fun w' => w'.cell? ⟨wr.heap.size, 0, none⟩ = some (.int .i64 kd) ∧ w'.cell? ⟨wr.heap.size, 1, none⟩ = some (.string (str tx)) ∧ w'.cell? ⟨wr.heap.size, 2, none⟩ = some (.int .i64 p) ∧ wr.heap.size < w'.heap.size
          (refine wp_region_text 40 [0,1,2,3,4,5,6,7,8,9,10,11,12,13,14,15,16,17,18,19,20,21,22,23,24,25,26,27,28,29,30,31,32,33,34,35,36,37,38,39] S (by kernel_rfl) (by kernel_rfl) (by intro _ _ d _ _ h; cases d <;> exact h) ?hS ?_; rotate_left; simp only [List.map_cons, List.map_nil, List.getD_cons_zero, List.getD_cons_succ, List.drop_succ_cons, List.drop_zero])
          case hS => exact HC.out _ (Below.refl _ _).drew
          (refine' wpSeq_take rfl _ (by rfl) ?_ ?_; rotate_left; focus (intro w' hS; (try dsimp only at hS); obtain ⟨z1, z2, z3, z4⟩ := hS; go_simp; (first | done | with_reducible rfl)); (try simp only [Act.put, List.setIfInBounds_toArray, List.set_cons_zero, List.set_cons_succ]))
          (try simp only [Act.put, List.setIfInBounds_toArray, List.set_cons_zero, List.set_cons_succ])
          (refine' wpSeq_take rfl _ (by rfl) ?_ ?_; rotate_left; focus (intro w' hS; (try dsimp only at hS); obtain ⟨z1, z2, z3, z4⟩ := hS; go_simp; (first | done | with_reducible rfl)); (try simp only [Act.put, List.setIfInBounds_toArray, List.set_cons_zero, List.set_cons_succ]))
          (try simp only [Act.put, List.setIfInBounds_toArray, List.set_cons_zero, List.set_cons_succ])
          (refine' wpSeq_take rfl _ (by rfl) ?_ ?_; rotate_left; focus (intro w' hS; (try dsimp only at hS); obtain ⟨z1, z2, z3, z4⟩ := hS; go_simp; (first | done | with_reducible rfl)); (try simp only [Act.put, List.setIfInBounds_toArray, List.set_cons_zero, List.set_cons_succ]))
          (try simp only [Act.put, List.setIfInBounds_toArray, List.set_cons_zero, List.set_cons_succ])
          (refine' wpSeq_take rfl _ (by rfl) ?_ ?_; rotate_left; focus (intro w' hS; (try dsimp only at hS); obtain ⟨z1, z2, z3, z4⟩ := hS; go_simp; (first | done | with_reducible rfl)); (try simp only [Act.put, List.setIfInBounds_toArray, List.set_cons_zero, List.set_cons_succ]))
          (try simp only [Act.put, List.setIfInBounds_toArray, List.set_cons_zero, List.set_cons_succ])
          (refine' wpSeq_take rfl _ (by rfl) ?_ ?_; rotate_left; focus (intro w' hS; (try dsimp only at hS); obtain ⟨z1, z2, z3, z4⟩ := hS; go_simp; (first | done | with_reducible rfl)); (try simp only [Act.put, List.setIfInBounds_toArray, List.set_cons_zero, List.set_cons_succ]))
          (try simp only [Act.put, List.setIfInBounds_toArray, List.set_cons_zero, List.set_cons_succ])
          (refine' wpSeq_take rfl _ (by rfl) ?_ ?_; rotate_left; focus (intro w' hS; (try dsimp only at hS); obtain ⟨z1, z2, z3, z4⟩ := hS; go_simp; (first | done | with_reducible rfl)); (try simp only [Act.put, List.setIfInBounds_toArray, List.set_cons_zero, List.set_cons_succ]))
          (try simp only [Act.put, List.setIfInBounds_toArray, List.set_cons_zero, List.set_cons_succ])
          (refine' wpSeq_take rfl _ (by rfl) ?_ ?_; rotate_left; focus (intro w' hS; (try dsimp only at hS); obtain ⟨z1, z2, z3, z4⟩ := hS; go_simp; (first | done | with_reducible rfl)); (try simp only [Act.put, List.setIfInBounds_toArray, List.set_cons_zero, List.set_cons_succ]))
          (try simp only [Act.put, List.setIfInBounds_toArray, List.set_cons_zero, List.set_cons_succ])
          (refine' wpSeq_take rfl _ (by rfl) ?_ ?_; rotate_left; focus (intro w' hS; (try dsimp only at hS); obtain ⟨z1, z2, z3, z4⟩ := hS; go_simp; (first | done | with_reducible rfl)); (try simp only [Act.put, List.setIfInBounds_toArray, List.set_cons_zero, List.set_cons_succ]))
          (try simp only [Act.put, List.setIfInBounds_toArray, List.set_cons_zero, List.set_cons_succ])
          (refine' wpSeq_take rfl _ (by rfl) ?_ ?_; rotate_left; focus (intro w' hS; (try dsimp only at hS); obtain ⟨z1, z2, z3, z4⟩ := hS; go_simp; (first | done | with_reducible rfl)); (try simp only [Act.put, List.setIfInBounds_toArray, List.set_cons_zero, List.set_cons_succ]))
          (try simp only [Act.put, List.setIfInBounds_toArray, List.set_cons_zero, List.set_cons_succ])
          (refine' wpSeq_take rfl _ (by rfl) ?_ ?_; rotate_left; focus (intro w' hS; (try dsimp only at hS); obtain ⟨z1, z2, z3, z4⟩ := hS; go_simp; (first | done | with_reducible rfl)); (try simp only [Act.put, List.setIfInBounds_toArray, List.set_cons_zero, List.set_cons_succ]))
          (try simp only [Act.put, List.setIfInBounds_toArray, List.set_cons_zero, List.set_cons_succ])
          (refine' wpSeq_take rfl _ (by rfl) ?_ ?_; rotate_left; focus (intro w' hS; (try dsimp only at hS); obtain ⟨z1, z2, z3, z4⟩ := hS; go_simp; (first | done | with_reducible rfl)); (try simp only [Act.put, List.setIfInBounds_toArray, List.set_cons_zero, List.set_cons_succ]))
          (try simp only [Act.put, List.setIfInBounds_toArray, List.set_cons_zero, List.set_cons_succ])
          (refine' wpSeq_take rfl _ (by rfl) ?_ ?_; rotate_left; focus (intro w' hS; (try dsimp only at hS); obtain ⟨z1, z2, z3, z4⟩ := hS; go_simp; (first | done | with_reducible rfl)); (try simp only [Act.put, List.setIfInBounds_toArray, List.set_cons_zero, List.set_cons_succ]))
          (try simp only [Act.put, List.setIfInBounds_toArray, List.set_cons_zero, List.set_cons_succ])
          (refine' wpSeq_take rfl _ (by rfl) ?_ ?_; rotate_left; focus (intro w' hS; (try dsimp only at hS); obtain ⟨z1, z2, z3, z4⟩ := hS; go_simp; (first | done | with_reducible rfl)); (try simp only [Act.put, List.setIfInBounds_toArray, List.set_cons_zero, List.set_cons_succ]))
          (try simp only [Act.put, List.setIfInBounds_toArray, List.set_cons_zero, List.set_cons_succ])
          (refine' wpSeq_take rfl _ (by rfl) ?_ ?_; rotate_left; focus (intro w' hS; (try dsimp only at hS); obtain ⟨z1, z2, z3, z4⟩ := hS; go_simp; (first | done | with_reducible rfl)); (try simp only [Act.put, List.setIfInBounds_toArray, List.set_cons_zero, List.set_cons_succ]))
          (try simp only [Act.put, List.setIfInBounds_toArray, List.set_cons_zero, List.set_cons_succ])
          (refine' wpSeq_take rfl _ (by rfl) ?_ ?_; rotate_left; focus (intro w' hS; (try dsimp only at hS); obtain ⟨z1, z2, z3, z4⟩ := hS; go_simp; (first | done | with_reducible rfl)); (try simp only [Act.put, List.setIfInBounds_toArray, List.set_cons_zero, List.set_cons_succ]))
          (try simp only [Act.put, List.setIfInBounds_toArray, List.set_cons_zero, List.set_cons_succ])
          (refine' wpSeq_take rfl _ (by rfl) ?_ ?_; rotate_left; focus (intro w' hS; (try dsimp only at hS); obtain ⟨z1, z2, z3, z4⟩ := hS; go_simp; (first | done | with_reducible rfl)); (try simp only [Act.put, List.setIfInBounds_toArray, List.set_cons_zero, List.set_cons_succ]))
          (try simp only [Act.put, List.setIfInBounds_toArray, List.set_cons_zero, List.set_cons_succ])
          (refine' wpSeq_take rfl _ (by rfl) ?_ ?_; rotate_left; focus (intro w' hS; (try dsimp only at hS); obtain ⟨z1, z2, z3, z4⟩ := hS; go_simp; (first | done | with_reducible rfl)); (try simp only [Act.put, List.setIfInBounds_toArray, List.set_cons_zero, List.set_cons_succ]))
          (try simp only [Act.put, List.setIfInBounds_toArray, List.set_cons_zero, List.set_cons_succ])
          rw [hsub.out]
          (refine wpSeq_call rfl (by rfl) (fun K hK => ?_); go_simp; refine ((HTR.out _)).mono ?_; rintro e w2 ⟨rfl, hB2⟩; refine hK _ _ (HC.out _ (up (Below.refl _ _).drew hB2)) ?_; clear hK K; (try simp only [Act.put, List.setIfInBounds_toArray, List.set_cons_zero, List.set_cons_succ]))
          (try simp only [Act.put, List.setIfInBounds_toArray, List.set_cons_zero, List.set_cons_succ])
          have HB2 := hid (up (Below.refl _ _).drew hB2)
          clear hB2 hsub HTR
          (refine' wpSeq_take rfl _ (by rfl) ?_ ?_; rotate_left; focus (intro w' hS; (try dsimp only at hS); obtain ⟨z1, z2, z3, z4⟩ := hS; go_simp; (first | done | with_reducible rfl)); (try simp only [Act.put, List.setIfInBounds_toArray, List.set_cons_zero, List.set_cons_succ]))
          (try simp only [Act.put, List.setIfInBounds_toArray, List.set_cons_zero, List.set_cons_succ])
          (refine' wpSeq_take rfl _ (by rfl) ?_ ?_; rotate_left; focus (intro w' hS; (try dsimp only at hS); obtain ⟨z1, z2, z3, z4⟩ := hS; go_simp; (first | done | with_reducible rfl)); (try simp only [Act.put, List.setIfInBounds_toArray, List.set_cons_zero, List.set_cons_succ]))
          (try simp only [Act.put, List.setIfInBounds_toArray, List.set_cons_zero, List.set_cons_succ])
          (refine' wpSeq_take rfl _ (by rfl) ?_ ?_; rotate_left; focus (intro w' hS; (try dsimp only at hS); obtain ⟨z1, z2, z3, z4⟩ := hS; go_simp; (first | done | with_reducible rfl)); (try simp only [Act.put, List.setIfInBounds_toArray, List.set_cons_zero, List.set_cons_succ]))
          (try simp only [Act.put, List.setIfInBounds_toArray, List.set_cons_zero, List.set_cons_succ])
          (refine' wpSeq_take rfl _ (by rfl) ?_ ?_; rotate_left; focus (intro w' hS; (try dsimp only at hS); obtain ⟨z1, z2, z3, z4⟩ := hS; go_simp; (first | done | with_reducible rfl)); (try simp only [Act.put, List.setIfInBounds_toArray, List.set_cons_zero, List.set_cons_succ]))
          (try simp only [Act.put, List.setIfInBounds_toArray, List.set_cons_zero, List.set_cons_succ])
          (refine' wpSeq_take rfl _ (by rfl) ?_ ?_; rotate_left; focus (intro w' hS; (try dsimp only at hS); obtain ⟨z1, z2, z3, z4⟩ := hS; go_simp; (first | done | with_reducible rfl)); (try simp only [Act.put, List.setIfInBounds_toArray, List.set_cons_zero, List.set_cons_succ]))
          (try simp only [Act.put, List.setIfInBounds_toArray, List.set_cons_zero, List.set_cons_succ])
          (refine' wpSeq_take rfl _ (by rfl) ?_ ?_; rotate_left; focus (intro w' hS; (try dsimp only at hS); obtain ⟨z1, z2, z3, z4⟩ := hS; go_simp; (first | done | with_reducible rfl)); (try simp only [Act.put, List.setIfInBounds_toArray, List.set_cons_zero, List.set_cons_succ]))
          (try simp only [Act.put, List.setIfInBounds_toArray, List.set_cons_zero, List.set_cons_succ])
          (refine' wpSeq_take rfl _ (by rfl) ?_ ?_; rotate_left; focus (intro w' hS; (try dsimp only at hS); obtain ⟨z1, z2, z3, z4⟩ := hS; go_simp; (first | done | with_reducible rfl)); (try simp only [Act.put, List.setIfInBounds_toArray, List.set_cons_zero, List.set_cons_succ]))
          (try simp only [Act.put, List.setIfInBounds_toArray, List.set_cons_zero, List.set_cons_succ])
          (refine' wpSeq_take rfl _ (by rfl) ?_ ?_; rotate_left; focus (intro w' hS; (try dsimp only at hS); obtain ⟨z1, z2, z3, z4⟩ := hS; go_simp; (first | done | with_reducible rfl)); (try simp only [Act.put, List.setIfInBounds_toArray, List.set_cons_zero, List.set_cons_succ]))
          (try simp only [Act.put, List.setIfInBounds_toArray, List.set_cons_zero, List.set_cons_succ])
          (refine' wpSeq_take rfl _ (by rfl) ?_ ?_; rotate_left; focus (intro w' hS; (try dsimp only at hS); obtain ⟨z1, z2, z3, z4⟩ := hS; go_simp; (first | done | with_reducible rfl)); (try simp only [Act.put, List.setIfInBounds_toArray, List.set_cons_zero, List.set_cons_succ]))
          (try simp only [Act.put, List.setIfInBounds_toArray, List.set_cons_zero, List.set_cons_succ])
          rw [hrest.out]
          (refine wpSeq_call rfl (by rfl) (fun K hK => ?_); go_simp; refine ((HPX.out _)).mono ?_; rintro e w3 ⟨rfl, rfl⟩; refine hK _ _ (HC.out _ HB2.out) ?_; clear hK K; (try simp only [Act.put, List.setIfInBounds_toArray, List.set_cons_zero, List.set_cons_succ]))
          (try simp only [Act.put, List.setIfInBounds_toArray, List.set_cons_zero, List.set_cons_succ])
          (refine' wpSeq_take rfl _ (by rfl) ?_ ?_; rotate_left; focus (intro w' hS; (try dsimp only at hS); obtain ⟨z1, z2, z3, z4⟩ := hS; go_simp; (first | done | with_reducible rfl)); (try simp only [Act.put, List.setIfInBounds_toArray, List.set_cons_zero, List.set_cons_succ]))
          (try simp only [Act.put, List.setIfInBounds_toArray, List.set_cons_zero, List.set_cons_succ])
          (refine' wpSeq_take rfl _ (by rfl) ?_ ?_; rotate_left; focus (intro w' hS; (try dsimp only at hS); obtain ⟨z1, z2, z3, z4⟩ := hS; go_simp; (first | done | with_reducible rfl)); (try simp only [Act.put, List.setIfInBounds_toArray, List.set_cons_zero, List.set_cons_succ]))
          (try simp only [Act.put, List.setIfInBounds_toArray, List.set_cons_zero, List.set_cons_succ])
          (refine' wpSeq_take rfl _ (by rfl) ?_ ?_; rotate_left; focus (intro w' hS; (try dsimp only at hS); obtain ⟨z1, z2, z3, z4⟩ := hS; go_simp; (first | done | with_reducible rfl)); (try simp only [Act.put, List.setIfInBounds_toArray, List.set_cons_zero, List.set_cons_succ]))
          (try simp only [Act.put, List.setIfInBounds_toArray, List.set_cons_zero, List.set_cons_succ])
          (refine' wpSeq_take rfl _ (by rfl) ?_ ?_; rotate_left; focus (intro w' hS; (try dsimp only at hS); obtain ⟨z1, z2, z3, z4⟩ := hS; go_simp; (first | done | with_reducible rfl)); (try simp only [Act.put, List.setIfInBounds_toArray, List.set_cons_zero, List.set_cons_succ]))
          (try simp only [Act.put, List.setIfInBounds_toArray, List.set_cons_zero, List.set_cons_succ])
          (refine' wpSeq_take rfl _ (by rfl) ?_ ?_; rotate_left; focus (intro w' hS; (try dsimp only at hS); obtain ⟨z1, z2, z3, z4⟩ := hS; go_simp; (first | done | with_reducible rfl)); (try simp only [Act.put, List.setIfInBounds_toArray, List.set_cons_zero, List.set_cons_succ]))
          (try simp only [Act.put, List.setIfInBounds_toArray, List.set_cons_zero, List.set_cons_succ])
          (refine' wpSeq_take rfl _ (by rfl) ?_ ?_; rotate_left; focus (intro w' hS; (try dsimp only at hS); obtain ⟨z1, z2, z3, z4⟩ := hS; go_simp; (first | done | with_reducible rfl)); (try simp only [Act.put, List.setIfInBounds_toArray, List.set_cons_zero, List.set_cons_succ]))
          (try simp only [Act.put, List.setIfInBounds_toArray, List.set_cons_zero, List.set_cons_succ])
          (refine' wpSeq_take rfl _ (by rfl) ?_ ?_; rotate_left; focus (intro w' hS; (try dsimp only at hS); obtain ⟨z1, z2, z3, z4⟩ := hS; go_simp; (first | done | with_reducible rfl)); (try simp only [Act.put, List.setIfInBounds_toArray, List.set_cons_zero, List.set_cons_succ]))
          (try simp only [Act.put, List.setIfInBounds_toArray, List.set_cons_zero, List.set_cons_succ])
          (refine' wpSeq_take rfl _ (by rfl) ?_ ?_; rotate_left; focus (intro w' hS; (try dsimp only at hS); obtain ⟨z1, z2, z3, z4⟩ := hS; go_simp; (first | done | with_reducible rfl)); (try simp only [Act.put, List.setIfInBounds_toArray, List.set_cons_zero, List.set_cons_succ]))
          (try simp only [Act.put, List.setIfInBounds_toArray, List.set_cons_zero, List.set_cons_succ])
          (refine' wpSeq_take rfl _ (by rfl) ?_ ?_; rotate_left; focus (intro w' hS; (try dsimp only at hS); obtain ⟨z1, z2, z3, z4⟩ := hS; go_simp; (first | done | with_reducible rfl)); (try simp only [Act.put, List.setIfInBounds_toArray, List.set_cons_zero, List.set_cons_succ]))
          (try simp only [Act.put, List.setIfInBounds_toArray, List.set_cons_zero, List.set_cons_succ])
          (refine' wpSeq_take rfl _ (by rfl) ?_ ?_; rotate_left; focus (intro w' hS; (try dsimp only at hS); obtain ⟨z1, z2, z3, z4⟩ := hS; go_simp; (first | done | with_reducible rfl)); (try simp only [Act.put, List.setIfInBounds_toArray, List.set_cons_zero, List.set_cons_succ]))
          (try simp only [Act.put, List.setIfInBounds_toArray, List.set_cons_zero, List.set_cons_succ])
          (refine' wpSeq_take rfl _ (by rfl) ?_ ?_; rotate_left; focus (intro w' hS; (try dsimp only at hS); obtain ⟨z1, z2, z3, z4⟩ := hS; go_simp; (first | done | with_reducible rfl)); (try simp only [Act.put, List.setIfInBounds_toArray, List.set_cons_zero, List.set_cons_succ]))
          (try simp only [Act.put, List.setIfInBounds_toArray, List.set_cons_zero, List.set_cons_succ])
          (refine' wpSeq_take rfl _ (by rfl) ?_ ?_; rotate_left; focus (intro w' hS; (try dsimp only at hS); obtain ⟨z1, z2, z3, z4⟩ := hS; go_simp; (first | done | with_reducible rfl)); (try simp only [Act.put, List.setIfInBounds_toArray, List.set_cons_zero, List.set_cons_succ]))
          (try simp only [Act.put, List.setIfInBounds_toArray, List.set_cons_zero, List.set_cons_succ])
          refine wpSeq_nil ?_
          clear S
          have hcw := HC.out _ HB2.out
          obtain ⟨z1, z2, z3, z4⟩ := hcw
          clear HPX hrest d0 d1 d2 d3 e0 hpz
          go_wp2_with fail
          · rename_i hh; exact absurd (hfin.symm.trans hh) (by decide)
          rw [HTX.out, wrapS _ (by have := HPP.out; have := HL4.out; omega)]
          refine ⟨⟨k + 1, p + tx.length, by have := HKL.out; omega, by simp, by simp, HNX, HBB.out.trans (HB2.out.mono HBB.out.size)⟩, ?_⟩
          have := HKL.out
          simp [intOf]; omega
        · have hkl : k = l.length := by omega
          have hen : ((en : Int) == ((str s).size : Int)) = true := by
            have := HP.out
            rw [hkl, List.drop_length] at this
            rw [HSZ.out]; simp only [PlcAll] at this; rw [this]; exact beq_self_eq_true _
          clear HP
          go_wp2_with fail
          refine (hD.out _).mono ?_
          rintro e w2 ⟨rfl, hB2⟩
          go_simp
          go_wp2_with fail
          go_ret
          exact ⟨rfl, up (up hB hBB) hB2⟩

end Go.Proofs.YtkeglokokleonaaDoor
