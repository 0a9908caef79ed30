/-
  lexer.Join: the normal text of tokens, or the error, for all tokens.
-/
import Derived.Test.YtemmepgfngkgmaaGreatDoorK14
import Derived.Test.YtemmepgfngkgmaaGreatDoorK12
namespace Go.Proofs.YtemmepgfngkgmaaGreatDoor
open Go.RowKit

theorem form_len (t : Tok) (b : Bool) (h : formErr t b = 0) : t.text.length ≤ 1024 := by
  unfold formErr at h
  by_cases h3 : t.kind = 3
  · rw [if_pos h3] at h
    cases b with
    | false => simp at h
    | true =>
      by_cases he : t.text = []
      · simp [he]
      · simp [he] at h
  · rw [if_neg h3] at h
    by_cases hk : t.kind = 0 ∨ t.kind = 1 ∨ t.kind = 2
    · rw [if_pos hk] at h
      have h0 : tokErr t.kind t.text = 0 := by
        by_cases h0 : tokErr t.kind t.text = 0
        · exact h0
        · rw [if_neg h0] at h; omega
      rcases hk with hk | hk | hk <;> rw [hk] at h0
      · have := (wordErr_ok (t := t.text) (by simpa [tokErr] using h0)).2.2; omega
      · exact (numErr_ok (t := t.text) (by simpa [tokErr] using h0)).2.2
      · obtain ⟨c, hc, _⟩ := sgnErr_ok (t := t.text) (by simpa [tokErr] using h0); rw [hc]; simp
    · rw [if_neg hk] at h; omega

theorem joined_cons (b : Bool) (t : Tok) (l : List Tok) : joined b (t :: l) = (if b && plainT t then [32] else []) ++ t.text ++ joined (plainT t) l := rfl
theorem drop_tok' {l : List Tok} {k : Nat} (h : k < l.length) : l.drop k = l[k]?.getD default :: l.drop (k + 1) := by
  rw [List.drop_eq_getElem_cons h]; simp [h]

theorem join_last (l : List Tok) (h : 0 < l.length) : l.getLast?.map Tok.kind = some (l[l.length - 1]?.getD default).kind := by
  rw [List.getLast?_eq_getElem?, List.getElem?_eq_getElem (by omega)]; rfl

set_option maxRecDepth 100000 in
set_option maxHeartbeats 8000000 in
theorem p_Join (l : List Tok) (v : Value) (w : World) (hv : ToksR w v l) (hs : l.length ≤ 4097 → ∀ k : Nat, (l[k]?.getD default).text.length ≤ 9223372036854775807) :
    Calls Tryz.prog 91 #[v] w fun e w' => e = .returned (.tuple #[.string (str (joinR l).2), .int .i64 (joinR l).1]) ∧ Below w.heap.size w w' := by
  obtain ⟨a, cap, rfl, hcap, hcap2, hln, hc⟩ := hv
  have HCAP := hid hcap
  have HCAP2 := hid hcap2
  have HLN := hid hln
  clear hcap hcap2 hln
  by_cases hmany : 4097 < l.length
  · have hz : joinR l = (5, []) := by unfold joinR; rw [if_pos hmany]
    rw [hz]
    have h1 : (4097 : Int) < (l.length : Int) := by omega
    clear hz hs hmany
    go_enter Tryz.func91, Tryz.ntmps91
    go_wp2_with fail
    go_ret2
    exact ⟨rfl, Below.refl _ _⟩
  · have h1 : ¬ (4097 : Int) < (l.length : Int) := by omega
    have HM : Hid (l.length ≤ 4097) := by show _ ≤ _; omega
    have HS := hid (hs HM.out)
    obtain ⟨z, hz⟩ : ∃ z, z = joinR l := ⟨_, rfl⟩
    rw [← hz]
    obtain ⟨fz, hfz⟩ : ∃ fz, fz = firstNZ (formAt l) 0 l.length := ⟨_, rfl⟩
    obtain ⟨js, hjs⟩ : ∃ js, js = joined false l := ⟨_, rfl⟩
    have hz2 : z = if fz ≠ 0 then (fz, []) else if (l.getLast?.map Tok.kind) ≠ some 3 then (9, []) else if 4096 < js.length then (19, []) else (0, js) := by
      rw [hz]; unfold joinR; rw [if_neg hmany, ← hfz, ← hjs]
    have HZ := hid hz2
    have HFZ : Hid (firstNZ (formAt l) 0 (l.length - 0) = fz) := by show _ = _; rw [hfz]; rfl
    have HJS : Hid ([] ++ joined false (l.drop 0) = js) := by show _ = _; rw [hjs]; rfl
    clear hz hz2 hfz hjs hs hmany
    go_enter Tryz.func91, Tryz.ntmps91
    go_wp2_with fail
    go_loopw [5, 15] (fun p i wr => ∃ (k : Nat) (pl : Bool) (acc : List UInt8), k ≤ l.length ∧ p = .bool pl ∧ i = .int .i64 k ∧ Bld w.heap.size w.heap.size acc wr ∧ acc.length ≤ k * 1025 ∧
      Hid (firstNZ (formAt l) k (l.length - k) = fz) ∧ Hid (acc ++ joined pl (l.drop k) = js) ∧ Below w.heap.size w wr) (fun _ i _ => l.length - (intOf i).toNat)
    case atStart => exact ⟨0, false, [], Nat.zero_le _, rfl, rfl, Bld.fresh w, Nat.zero_le _, HFZ, HJS, (Below.refl _ _).alloc (Nat.le_refl _) _⟩
    case round =>
      clear HFZ HJS
      obtain ⟨k, pl, acc, hk, rfl, rfl, hbd, hacc, HFZ, HJS, hB⟩ := hrel
      by_cases hkt : k < l.length
      · obtain ⟨b, off, rfl, hb, hx⟩ := (hc.below hB).tok (by omega)
        obtain ⟨x1, x2, x3⟩ := hx k hkt
        have HD := hid (drop_tok' hkt)
        have HTL := hid (HS.out k)
        have hst := firstNZ_step (formAt l) k l.length hkt
        have hfa : formAt l k = formErr (l[k]?.getD default) (decide (k + 1 = l.length)) := rfl
        rw [hfa] at hst
        generalize l[k]?.getD default = tt at *
        obtain ⟨kd, tx, ps⟩ := tt
        have HACC := hid hacc
        have HBD := hid hbd
        have hlast : ((k : Int) == (l.length : Int) - 1) = decide (k + 1 = l.length) := by
          rw [Bool.eq_iff_iff, beq_iff_eq, decide_eq_true_eq]; omega
        have hform := fun w => p_form ⟨kd, tx, ps⟩ (decide (k + 1 = l.length)) w HTL.out
        generalize decide (k + 1 = l.length) = lb at *
        have HFL := hid (form_len ⟨kd, tx, ps⟩ lb)
        generalize formErr ⟨kd, tx, ps⟩ lb = er at *
        have HER : Hid (er ≠ 0 → fz = er) := fun h => by rw [← HFZ.out, hst, if_pos h]
        have HNX : Hid (er = 0 → firstNZ (formAt l) (k + 1) (l.length - (k + 1)) = fz) := fun h => by rw [← HFZ.out, hst, if_neg (by simp [h])]
        have HF := hid hform
        clear hx hst hfa hform hacc hbd HFZ
        go_wp2_with fail
        refine (HF.out _).mono ?_
        rintro e w2 ⟨rfl, hB2⟩
        have hbA : Bld w.heap.size w.heap.size acc (wr.alloc (.cells #[.int .i64 kd, .string (str tx), .int .i64 ps] 134)) := HBD.out.below ((Below.refl _ _).alloc (Nat.le_refl _) _)
        have hbd2 := hbA.below hB2
        have hblkA : Blk (wr.alloc (.cells #[.int .i64 kd, .string (str tx), .int .i64 ps] 134)) wr.heap.size #[.int .i64 kd, .string (str tx), .int .i64 ps] 134 := heap_alloc_new wr _
        have hblk2 := hblkA.below hB2
        have hBB2 : Below w.heap.size w w2 := (hB.alloc hB.size _).trans (hB2.mono (by have := hB.size; simp; omega))
        have hws : w.heap.size < wr.heap.size := HBD.out.lt
        have y0 := hblk2.cell 0
        have y1 := hblk2.cell 1
        simp only [List.getElem?_toArray, List.getElem?_cons_zero, List.getElem?_cons_succ] at y0 y1
        clear hbA hblkA hB2 hB HBD HF x1 x2 x3
        by_cases her : er = 0
        · subst her
          have HTX : Hid (tx.length ≤ 1024) := HFL.out rfl
          clear HER HFL HTL
          cases pl with
          | true =>
            by_cases k0 : kd = 0
            · subst k0
              have HJ : Hid ((acc ++ [32] ++ tx) ++ joined true (l.drop (k + 1)) = js) := by
                show _ = _; rw [← HJS.out, HD.out, joined_cons, show plainT ⟨0, tx, ps⟩ = true from rfl]; simp
              clear HJS HD
              go_simp
              go_wp2_with fail
              refine (c_WriteByte w.heap.size w.heap.size acc 32 w2 hbd2 (by have := HM.out; have := HACC.out; omega)).mono ?_
              rintro e w3 ⟨rfl, hbd3, hB3, hO3⟩
              have hblk3 := hO3.blk hblk2 (by omega) (by decide)
              have hBB3 := hBB2.trans hB3
              have y3 := hblk3.cell 1
              simp only [List.getElem?_toArray, List.getElem?_cons_zero, List.getElem?_cons_succ] at y3
              clear y0 y1 hblk2 hB3 hO3
              go_simp
              go_wp2_with fail
              refine (c_WriteString w.heap.size w.heap.size (acc ++ [32]) tx w3 hbd3 (by have := HM.out; have := HACC.out; simp; omega) (by have := HTX.out; omega)).mono ?_
              rintro e w4 ⟨vv, rfl, hbd4, hB4, _⟩
              have hBB4 := hBB3.trans hB4
              go_simp
              go_wp2_with fail
              go_roundw
              case rel => exact ⟨k + 1, true, acc ++ [32] ++ tx, by omega, rfl, rfl, hbd4, by have := HACC.out; have := HTX.out; simp; omega, HNX.out (by trivial), by have h := HJ.out; show _ = _; rw [← h], hBB4⟩
              case measure => simp [intOf]; omega
            · by_cases k1 : kd = 1
              · subst k1
                have HJ : Hid ((acc ++ [32] ++ tx) ++ joined true (l.drop (k + 1)) = js) := by
                  show _ = _; rw [← HJS.out, HD.out, joined_cons, show plainT ⟨1, tx, ps⟩ = true from rfl]; simp
                clear HJS HD
                go_simp
                go_wp2_with fail
                refine (c_WriteByte w.heap.size w.heap.size acc 32 w2 hbd2 (by have := HM.out; have := HACC.out; omega)).mono ?_
                rintro e w3 ⟨rfl, hbd3, hB3, hO3⟩
                have hblk3 := hO3.blk hblk2 (by omega) (by decide)
                have hBB3 := hBB2.trans hB3
                have y3 := hblk3.cell 1
                simp only [List.getElem?_toArray, List.getElem?_cons_zero, List.getElem?_cons_succ] at y3
                clear y0 y1 hblk2 hB3 hO3
                go_simp
                go_wp2_with fail
                refine (c_WriteString w.heap.size w.heap.size (acc ++ [32]) tx w3 hbd3 (by have := HM.out; have := HACC.out; simp; omega) (by have := HTX.out; omega)).mono ?_
                rintro e w4 ⟨vv, rfl, hbd4, hB4, _⟩
                have hBB4 := hBB3.trans hB4
                go_simp
                go_wp2_with fail
                go_roundw
                case rel => exact ⟨k + 1, true, acc ++ [32] ++ tx, by omega, rfl, rfl, hbd4, by have := HACC.out; have := HTX.out; simp; omega, HNX.out (by trivial), by have h := HJ.out; show _ = _; rw [← h], hBB4⟩
                case measure => simp [intOf]; omega
              · have HPL : Hid (plainT ⟨kd, tx, ps⟩ = false) := by show _ = _; simp [plainT, k0, k1]
                have e0 : (kd == 0) = false := by simpa using k0
                have e1 : (kd == 1) = false := by simpa using k1
                clear k0 k1
                have HJ : Hid ((acc ++ tx) ++ joined false (l.drop (k + 1)) = js) := by
                  show _ = _; rw [← HJS.out, HD.out, joined_cons, show plainT ⟨kd, tx, ps⟩ = false from HPL.out]; simp
                clear HJS HD
                go_simp
                go_wp2_with fail
                refine (c_WriteString w.heap.size w.heap.size acc tx w2 hbd2 (by have := HM.out; have := HACC.out; simp; omega) (by have := HTX.out; omega)).mono ?_
                rintro e w4 ⟨vv, rfl, hbd4, hB4, _⟩
                have hBB4 := hBB2.trans hB4
                go_simp
                go_wp2_with fail
                go_roundw
                case rel => exact ⟨k + 1, false, acc ++ tx, by omega, rfl, rfl, hbd4, by have := HACC.out; have := HTX.out; simp; omega, HNX.out (by trivial), HJ, hBB4⟩
                case measure => simp [intOf]; omega
          | false =>
            by_cases k0 : kd = 0
            · subst k0
              have HJ : Hid ((acc ++ tx) ++ joined true (l.drop (k + 1)) = js) := by
                show _ = _; rw [← HJS.out, HD.out, joined_cons, show plainT ⟨0, tx, ps⟩ = true from rfl]; simp
              clear HJS HD
              go_simp
              go_wp2_with fail
              refine (c_WriteString w.heap.size w.heap.size acc tx w2 hbd2 (by have := HM.out; have := HACC.out; simp; omega) (by have := HTX.out; omega)).mono ?_
              rintro e w4 ⟨vv, rfl, hbd4, hB4, _⟩
              have hBB4 := hBB2.trans hB4
              go_simp
              go_wp2_with fail
              go_roundw
              case rel => exact ⟨k + 1, true, acc ++ tx, by omega, rfl, rfl, hbd4, by have := HACC.out; have := HTX.out; simp; omega, HNX.out (by trivial), HJ, hBB4⟩
              case measure => simp [intOf]; omega
            · by_cases k1 : kd = 1
              · subst k1
                have HJ : Hid ((acc ++ tx) ++ joined true (l.drop (k + 1)) = js) := by
                  show _ = _; rw [← HJS.out, HD.out, joined_cons, show plainT ⟨1, tx, ps⟩ = true from rfl]; simp
                clear HJS HD
                go_simp
                go_wp2_with fail
                refine (c_WriteString w.heap.size w.heap.size acc tx w2 hbd2 (by have := HM.out; have := HACC.out; simp; omega) (by have := HTX.out; omega)).mono ?_
                rintro e w4 ⟨vv, rfl, hbd4, hB4, _⟩
                have hBB4 := hBB2.trans hB4
                go_simp
                go_wp2_with fail
                go_roundw
                case rel => exact ⟨k + 1, true, acc ++ tx, by omega, rfl, rfl, hbd4, by have := HACC.out; have := HTX.out; simp; omega, HNX.out (by trivial), HJ, hBB4⟩
                case measure => simp [intOf]; omega
              · have HPL : Hid (plainT ⟨kd, tx, ps⟩ = false) := by show _ = _; simp [plainT, k0, k1]
                have e0 : (kd == 0) = false := by simpa using k0
                have e1 : (kd == 1) = false := by simpa using k1
                clear k0 k1
                have HJ : Hid ((acc ++ tx) ++ joined false (l.drop (k + 1)) = js) := by
                  show _ = _; rw [← HJS.out, HD.out, joined_cons, show plainT ⟨kd, tx, ps⟩ = false from HPL.out]; simp
                clear HJS HD
                go_simp
                go_wp2_with fail
                refine (c_WriteString w.heap.size w.heap.size acc tx w2 hbd2 (by have := HM.out; have := HACC.out; simp; omega) (by have := HTX.out; omega)).mono ?_
                rintro e w4 ⟨vv, rfl, hbd4, hB4, _⟩
                have hBB4 := hBB2.trans hB4
                go_simp
                go_wp2_with fail
                go_roundw
                case rel => exact ⟨k + 1, false, acc ++ tx, by omega, rfl, rfl, hbd4, by have := HACC.out; have := HTX.out; simp; omega, HNX.out (by trivial), HJ, hBB4⟩
                case measure => simp [intOf]; omega
        · have hfz := HER.out her
          have HZR : Hid (z = (er, [])) := by show _ = _; rw [HZ.out, hfz, if_pos her]
          clear HZ HNX HJS
          go_simp
          go_wp2_with fail
          go_ret2
          rw [HZR.out]
          exact ⟨rfl, hBB2⟩
      · have hkl : k = l.length := by omega
        have HF0 : Hid (fz = 0) := by show _ = _; rw [← HFZ.out, hkl, Nat.sub_self]; rfl
        have HJ2 : Hid (acc = js) := by
          show _ = _; rw [← HJS.out, hkl, List.drop_length]; simp [joined]
        clear HFZ HJS hkl
        by_cases hl0 : l.length = 0
        · have HZR : Hid (z = (9, [])) := by
            show _ = _; rw [HZ.out, HF0.out, List.eq_nil_of_length_eq_zero hl0]; rfl
          clear HZ HF0 HJ2
          have hl0' : ((l.length : Int) == 0) = true := by simp [List.eq_nil_of_length_eq_zero hl0]
          clear hl0
          go_wp2_with fail
          go_ret2
          rw [HZR.out]
          exact ⟨rfl, hB⟩
        · have hl0' : ((l.length : Int) == 0) = false := by simp; intro h; exact hl0 (by rw [h]; rfl)
          have hpos : 0 < l.length := by omega
          obtain ⟨b, off, rfl, hb, hx⟩ := (hc.below hB).tok hpos
          obtain ⟨x1, x2, x3⟩ := hx (l.length - 1) (by omega)
          have hcast : ((l.length : Int) - 1) = ((l.length - 1 : Nat) : Int) := by omega
          have HLK := hid (join_last l hpos)
          generalize (l[l.length - 1]?.getD default).kind = kd at *
          obtain ⟨n, hn⟩ : ∃ n, l.length = n + 1 := ⟨l.length - 1, by omega⟩
          have HN := hid hn
          by_cases hk3 : kd = 3
          · subst hk3
            have HZ2 : Hid (z = if 4096 < js.length then (19, []) else (0, js)) := by
              show _ = _; rw [HZ.out, HF0.out, HLK.out]; simp
            clear HZ HF0 HLK hx x2 x3 hl0 hn
            rw [HN.out, Nat.add_sub_cancel] at x1
            rw [HN.out] at hl0' hkt hk ⊢
            have hnb : (n : Int) ≤ 4096 := by have := HM.out; have := HN.out; omega
            have HBW := hid hB
            clear hB hpos hk hacc h1 hcast
            go_wp2_with fail
            have hac := HJ2.out
            subst hac
            refine (c_Len _ _ _ _ hbd).mono ?_
            rintro e w1 ⟨rfl, rfl⟩
            by_cases h4 : 4096 < acc.length
            · have h4' : (4096 : Int) < (acc.length : Int) := by omega
              have HZR : Hid (z = (19, [])) := by show _ = _; rw [HZ2.out, if_pos h4]
              clear HZ2 h4
              go_simp
              go_wp2_with fail
              go_ret2
              rw [HZR.out]
              exact ⟨rfl, HBW.out⟩
            · have h4' : ¬ (4096 : Int) < (acc.length : Int) := by omega
              have HZR : Hid (z = (0, acc)) := by show _ = _; rw [HZ2.out, if_neg h4]
              clear HZ2 h4
              go_simp
              go_wp2_with fail
              refine (c_String _ _ _ _ hbd).mono ?_
              rintro e w2 ⟨rfl, hB2⟩
              go_simp
              go_wp2_with fail
              go_ret2
              rw [HZR.out]
              exact ⟨rfl, HBW.out.trans hB2⟩
          · have HZR : Hid (z = (9, [])) := by
              show _ = _; rw [HZ.out, HF0.out, HLK.out]; simp [hk3]
            have hk3q : (kd != 3) = true := by simpa using hk3
            clear HZ HF0 HLK hx x2 x3 hl0 hn hk3 HJ2
            rw [HN.out, Nat.add_sub_cancel] at x1
            rw [HN.out] at hl0' hkt hk ⊢
            have hnb : (n : Int) ≤ 4096 := by have := HM.out; have := HN.out; omega
            have HBW := hid hB
            clear hB hpos hk hacc h1 hcast
            go_wp2_with fail
            go_ret2
            rw [HZR.out]
            exact ⟨rfl, HBW.out⟩

end Go.Proofs.YtemmepgfngkgmaaGreatDoor
