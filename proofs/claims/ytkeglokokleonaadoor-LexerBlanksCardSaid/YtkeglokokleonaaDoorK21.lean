/-
  The reference's Joined and Join.
-/
import Derived.Test.YtkeglokokleonaaDoorK19
namespace Go.Proofs.YtkeglokokleonaaDoor
open Go.RowKit

theorem str_append (a b : List UInt8) : (str a) ++ (str b) = str (a ++ b) := by
  have h1 : ((str a) ++ (str b)).data = (str (a ++ b)).data := by
    rw [ByteArray.data_append]; simp [str]
  exact ByteArray.ext h1

/-- Whether the token ahead of an index is a word or a number. -/
def plAt (l : List Tok) : Nat → Bool
  | 0 => false
  | k + 1 => plainT (l[k]?.getD default)

theorem join_step {l : List Tok} {k : Nat} (hk : k < l.length) (acc js : List UInt8) (h : acc ++ joined (plAt l k) (l.drop k) = js) :
    ((if plAt l k && plainT (l[k]?.getD default) then acc ++ [32] else acc) ++ (l[k]?.getD default).text) ++ joined (plAt l (k + 1)) (l.drop (k + 1)) = js := by
  rw [← h, drop_tok' hk, joined_cons]
  show _ ++ joined (plainT (l[k]?.getD default)) _ = _
  cases (plAt l k && plainT (l[k]?.getD default)) <;> simp

set_option maxRecDepth 100000 in
set_option maxHeartbeats 4000000 in
theorem r_Joined (l : List Tok) (v : Value) (w : World) (hv : ToksR w v l) (hn : l.length ≤ 4097) (ht : ∀ k : Nat, (l[k]?.getD default).text.length ≤ 1024) :
    Calls Tryd.prog 33 #[v] w fun e w' => e = .returned (.string (str (joined false l))) ∧ Below w.heap.size w w' := by
  obtain ⟨a, cap, rfl, hcap, hcap2, hln, hc⟩ := hv
  have HN := hid hn
  have HT := hid ht
  obtain ⟨js, hjs⟩ : ∃ js, js = joined false l := ⟨_, rfl⟩
  rw [← hjs]
  have HJS : Hid ([] ++ joined (plAt l 0) (l.drop 0) = js) := by show _ = _; rw [hjs]; rfl
  clear hcap hcap2 hln hn ht hjs
  go_enter Tryd.func33, Tryd.ntmps33
  go_wp2_with fail
  go_loopw [3, 4] (fun s i wr => ∃ (k : Nat) (acc : List UInt8), k ≤ l.length ∧ s = .string (str acc) ∧ i = .int .i64 k ∧ acc.length ≤ k * 1025 ∧ Hid (acc ++ joined (plAt l k) (l.drop k) = js) ∧ Below w.heap.size w wr) (fun _ i _ => l.length - (intOf i).toNat)
  case atStart => exact ⟨0, [], Nat.zero_le _, rfl, rfl, Nat.zero_le _, HJS, Below.refl _ _⟩
  case round =>
    clear HJS
    obtain ⟨k, acc, hk, rfl, rfl, hacc, HJ, hB⟩ := hrel
    by_cases hkt : k < l.length
    · obtain ⟨b, off, rfl, hb, hx⟩ := (hc.below hB).tok (by omega)
      obtain ⟨x1, x2, x3⟩ := hx k hkt
      have HST := hid (join_step hkt acc js HJ.out)
      have HTX := hid (HT.out k)
      have hp1 := fun w => r_plain (l[k]?.getD default) w
      have hnb : (k : Int) ≤ 4096 := by have := HN.out; omega
      have HACC := hid hacc
      clear hacc HJ
      cases hk0 : k with
      | zero =>
        subst hk0
        have HST2 : Hid ((acc ++ (l[0]?.getD default).text) ++ joined (plAt l (0 + 1)) (l.drop (0 + 1)) = js) := HST.out
        have hcat : ¬ 9223372036854775807 < (str acc).size + (str (l[0]?.getD default).text).size := by
          rw [str_size, str_size]; have := HTX.out; have := HACC.out; omega
        generalize (l[0]?.getD default).text = tx at *
        clear hx HST hp1
        simp at x1 x2 x3
        go_wp2_with fail
        refine ⟨⟨1, acc ++ tx, by omega, by rw [str_append], rfl, by have := HTX.out; have := HACC.out; simp; omega, HST2, hB⟩, ?_⟩
        simp [intOf]; omega
      | succ j =>
        subst hk0
        have hpl : plAt l (j + 1) = plainT (l[j]?.getD default) := rfl
        rw [hpl] at HST
        obtain ⟨y1, y2, y3⟩ := hx j (by omega)
        have HP0 := hid (fun w => r_plain (l[j]?.getD default) w)
        have HP1 := hid hp1
        have HTXX := hid (And.intro HTX.out HACC.out)
        have HCC : Hid (∀ a b : List UInt8, a.length ≤ 10000000 → b.length ≤ 1024 → ¬ 9223372036854775807 < (str a).size + (str b).size) := fun a b h1 h2 => by
          rw [str_size, str_size]; omega
        have hcast : ((j + 1 : Nat) : Int) - 1 = (j : Int) := by omega
        clear hpl hp1 HTX HACC hx
        generalize l[j]?.getD default = t0 at *
        generalize l[j + 1]?.getD default = t1 at *
        obtain ⟨k0, tx0, ps0⟩ := t0
        obtain ⟨k1, tx1, ps1⟩ := t1
        have hacc1 : acc.length ≤ 5000000 := by have := HTXX.out.2; omega
        have htx1 : tx1.length ≤ 1024 := HTXX.out.1
        have HB1 := hid hacc1
        have HB2 := hid htx1
        have hcat1 := HCC.out acc tx1 (by omega) htx1
        have hcat2 : ¬ 9223372036854775807 < (str acc).size + 1 + (str tx1).size := by rw [str_size, str_size]; omega
        have hcat3 : ¬ 9223372036854775807 < (str acc).size + 1 := by rw [str_size]; omega
        clear hacc1 htx1 HCC
        cases hq0 : plainT ⟨k0, tx0, ps0⟩ with
        | false =>
          rw [hq0] at HP0 HST
          have HST2 : Hid ((acc ++ tx1) ++ joined (plAt l (j + 1 + 1)) (l.drop (j + 1 + 1)) = js) := HST.out
          clear HST HP1 hq0
          go_wp2_with fail
          refine (HP0.out _).mono ?_
          rintro e w1 ⟨rfl, hB1⟩
          obtain ⟨q1, q2⟩ := bcell hB1
          have z2 := (q1 _ (off + (j + 1) * 3 + 1) hb).trans x2
          have hBB := hB.trans (hB1.mono hB.size)
          have hb1 : b < w1.heap.size := Nat.lt_of_lt_of_le hb hB1.size
          clear q1 q2 hB1 hB x1 x2 x3 y1 y2 y3
          go_simp
          go_wp2_with fail
          have h1 := HB1.out
          have h2 := HB2.out
          refine ⟨⟨j + 1 + 1, acc ++ tx1, by omega, by rw [str_append], rfl, by have := HTXX.out.2; simp; omega, HST2, hBB⟩, ?_⟩
          simp [intOf]; omega
        | true =>
          rw [hq0] at HP0 HST
          clear hq0
          go_wp2_with fail
          refine (HP0.out _).mono ?_
          rintro e w1 ⟨rfl, hB1⟩
          obtain ⟨q1, q2⟩ := bcell hB1
          have z1 := (q1 _ (off + (j + 1) * 3) hb).trans x1
          have z2 := (q1 _ (off + (j + 1) * 3 + 1) hb).trans x2
          have z3 := (q1 _ (off + (j + 1) * 3 + 2) hb).trans x3
          have hBB := hB.trans (hB1.mono hB.size)
          have hb1 : b < w1.heap.size := Nat.lt_of_lt_of_le hb hB1.size
          clear q1 q2 hB1 hB x1 x2 x3 y1 y2 y3 HP0
          go_simp
          go_wp2_with fail
          cases hq1 : plainT ⟨k1, tx1, ps1⟩ with
          | true =>
            rw [hq1] at HP1 HST
            have HST2 : Hid (((acc ++ [32]) ++ tx1) ++ joined (plAt l (j + 1 + 1)) (l.drop (j + 1 + 1)) = js) := HST.out
            clear HST hq1
            refine (HP1.out _).mono ?_
            rintro e w2 ⟨rfl, hB2⟩
            obtain ⟨q1, q2⟩ := bcell hB2
            have y2 := (q1 _ (off + (j + 1) * 3 + 1) hb1).trans z2
            have hB3 := hBB.trans (hB2.mono hBB.size)
            have hb2 : b < w2.heap.size := Nat.lt_of_lt_of_le hb1 hB2.size
            clear q1 q2 hB2 hBB z1 z2 z3
            go_simp
            go_wp2_with fail
            have h1 := HB1.out
            have h2 := HB2.out
            refine ⟨⟨j + 1 + 1, (acc ++ [32]) ++ tx1, by omega, by rw [show ({ data := #[32] } : ByteArray) = str [32] from rfl, str_append, str_append], rfl, by have := HTXX.out.2; simp; omega, HST2, hB3⟩, ?_⟩
            simp [intOf]; omega
          | false =>
            rw [hq1] at HP1 HST
            have HST2 : Hid ((acc ++ tx1) ++ joined (plAt l (j + 1 + 1)) (l.drop (j + 1 + 1)) = js) := HST.out
            clear HST hq1
            refine (HP1.out _).mono ?_
            rintro e w2 ⟨rfl, hB2⟩
            obtain ⟨q1, q2⟩ := bcell hB2
            have y2 := (q1 _ (off + (j + 1) * 3 + 1) hb1).trans z2
            have hB3 := hBB.trans (hB2.mono hBB.size)
            have hb2 : b < w2.heap.size := Nat.lt_of_lt_of_le hb1 hB2.size
            clear q1 q2 hB2 hBB z1 z2 z3
            go_simp
            go_wp2_with fail
            have h1 := HB1.out
            have h2 := HB2.out
            refine ⟨⟨j + 1 + 1, acc ++ tx1, by omega, by rw [str_append], rfl, by have := HTXX.out.2; simp; omega, HST2, hB3⟩, ?_⟩
            simp [intOf]; omega
    · have hkl : k = l.length := by omega
      have HE : Hid (acc = js) := by
        show _ = _; rw [← HJ.out, hkl, List.drop_length]; simp [joined]
      clear HJ hkl
      go_wp2_with fail
      go_ret
      exact ⟨by rw [← HE.out]; rfl, hB⟩


set_option maxRecDepth 100000 in
set_option maxHeartbeats 8000000 in
theorem r_Join (l : List Tok) (v : Value) (w : World) (hv : ToksR w v l) (hs : l.length ≤ 4097 → ∀ k : Nat, (l[k]?.getD default).text.length ≤ 140737488355328) :
    Calls Tryd.prog 15 #[v] w fun e w' => e = .returned (.tuple #[.string (str (joinR l).2), .int .i64 (joinR l).1]) ∧ Below w.heap.size w w' := by
  have hvv := hv
  obtain ⟨a, cap, rfl, hcap, hcap2, hln, hc⟩ := hv
  have HLN := hid hln
  clear hcap hcap2 hln
  by_cases hmany : 4097 < l.length
  · have hz : joinR l = (5, []) := by unfold joinR; rw [if_pos hmany]
    rw [hz]
    have h1 : (4097 : Int) < (l.length : Int) := by omega
    clear hz hs hmany hvv
    go_enter Tryd.func15, Tryd.ntmps15
    go_wp2_with fail
    go_ret2
    exact ⟨rfl, Below.refl _ _⟩
  · have h1 : ¬ (4097 : Int) < (l.length : Int) := by omega
    have HM : Hid (l.length ≤ 4097) := by show _ ≤ _; omega
    have HS := hid (hs HM.out)
    have HVV := hid hvv
    obtain ⟨z, hz⟩ : ∃ z, z = joinR l := ⟨_, rfl⟩
    rw [← hz]
    obtain ⟨fz, hfz⟩ : ∃ fz, fz = firstNZ (formAt l) 0 l.length := ⟨_, rfl⟩
    have hz2 : z = if fz ≠ 0 then (fz, []) else if (l.getLast?.map Tok.kind) ≠ some 3 then (9, []) else if 4096 < (joined false l).length then (19, []) else (0, joined false l) := by
      rw [hz]; unfold joinR; rw [if_neg hmany, ← hfz]
    have HZ := hid hz2
    have HFZ : Hid (firstNZ (formAt l) 0 (l.length - 0) = fz) := by show _ = _; rw [hfz]; rfl
    have HTS : Hid (fz = 0 → ∀ k : Nat, (l[k]?.getD default).text.length ≤ 1024) := fun h k => by
      by_cases hk : k < l.length
      · have := nz_all _ _ (hfz.symm.trans h) k hk
        exact form_len _ _ this
      · rw [List.getElem?_eq_none (by omega)]; exact Nat.zero_le _
    clear hz hz2 hfz hs hmany hvv
    go_enter Tryd.func15, Tryd.ntmps15
    go_wp2_with fail
    go_loopw [4] (fun i wr => ∃ (k : Nat), k ≤ l.length ∧ i = .int .i64 k ∧ Hid (firstNZ (formAt l) k (l.length - k) = fz) ∧ Below w.heap.size w wr) (fun i _ => l.length - (intOf i).toNat)
    case atStart => exact ⟨0, Nat.zero_le _, rfl, HFZ, Below.refl _ _⟩
    case round =>
      clear HFZ
      obtain ⟨k, hk, rfl, HFZ, hB⟩ := hrel
      by_cases hkt : k < l.length
      · obtain ⟨b, off, rfl, hb, hx⟩ := (hc.below hB).tok (by omega)
        obtain ⟨x1, x2, x3⟩ := hx k hkt
        have HTL := hid (HS.out k)
        have hst := firstNZ_step (formAt l) k l.length hkt
        have hfa : formAt l k = formErr (l[k]?.getD default) (decide (k + 1 = l.length)) := rfl
        rw [hfa] at hst
        have hform := fun w => r_form (l[k]?.getD default) k l.length w HTL.out HM.out
        clear HTL
        generalize l[k]?.getD default = tt at *
        obtain ⟨kd, tx, ps⟩ := tt
        generalize formErr ⟨kd, tx, ps⟩ (decide (k + 1 = l.length)) = er at *
        have HER : Hid (er ≠ 0 → fz = er) := fun h => by rw [← HFZ.out, hst, if_pos h]
        have HNX : Hid (er = 0 → firstNZ (formAt l) (k + 1) (l.length - (k + 1)) = fz) := fun h => by rw [← HFZ.out, hst, if_neg (by simp [h])]
        have HF := hid hform
        clear hx hst hfa hform HFZ
        by_cases her : er = 0
        · subst her
          go_wp2_with fail
          refine (HF.out _).mono ?_
          rintro e w2 ⟨rfl, hB2⟩
          have hBB := hB.trans (hB2.mono hB.size)
          go_simp
          go_wp2_with fail
          go_roundw
          case rel => exact ⟨k + 1, by omega, by go_num, HNX.out (by trivial), hBB⟩
          case measure => simp [intOf]; omega
        · have hfz := HER.out her
          have HZR : Hid (z = (er, [])) := by show _ = _; rw [HZ.out, hfz, if_pos her]
          clear HZ HNX hfz
          go_wp2_with fail
          refine (HF.out _).mono ?_
          rintro e w2 ⟨rfl, hB2⟩
          have hBB := hB.trans (hB2.mono hB.size)
          go_simp
          go_wp2_with fail
          go_ret2
          rw [HZR.out]
          exact ⟨rfl, hBB⟩
      · have hkl : k = l.length := by omega
        have HF0 : Hid (fz = 0) := by show _ = _; rw [← HFZ.out, hkl, Nat.sub_self]; rfl
        clear HFZ hkl
        by_cases hl0 : l.length = 0
        · have HZR : Hid (z = (9, [])) := by
            show _ = _; rw [HZ.out, HF0.out, List.eq_nil_of_length_eq_zero hl0]; rfl
          clear HZ HF0
          have hl0' : ((l.length : Int) == 0) = true := by simp [List.eq_nil_of_length_eq_zero hl0]
          clear hl0
          go_wp2_with fail
          go_ret2
          rw [HZR.out]
          exact ⟨rfl, hB⟩
        · have hl0' : ((l.length : Int) == 0) = false := by simp; intro h; exact hl0 (by rw [h]; rfl)
          have hpos : 0 < l.length := by omega
          obtain ⟨b, off, rfl, hb, hx⟩ := (hc.below hB).tok hpos
          obtain ⟨x1, x2, x3⟩ := hx (l.length - 1) (by omega)
          have HLK := hid (join_last l hpos)
          have HJ := hid (fun w1 (hB1 : Below w.heap.size w w1) => r_Joined l _ w1 (HVV.out.below hB1) HM.out (HTS.out HF0.out))
          generalize (l[l.length - 1]?.getD default).kind = kd at *
          obtain ⟨n, hn⟩ : ∃ n, l.length = n + 1 := ⟨l.length - 1, by omega⟩
          have HN := hid hn
          have HHB := hid hB
          by_cases hk3 : kd = 3
          · subst hk3
            have HZ2 : Hid (z = if 4096 < (joined false l).length then (19, []) else (0, joined false l)) := by
              show _ = _; rw [HZ.out, HF0.out, HLK.out]; simp
            have HJJ := hid (HJ.out _ hB)
            have hjs := str_size (joined false l)
            generalize joined false l = js at *
            have HJS := hid hjs
            clear HZ HF0 HLK hx x2 x3 hl0 hn HVV HJ hjs
            rw [HN.out, Nat.add_sub_cancel] at x1
            rw [HN.out] at hl0' hkt hk HJJ ⊢
            have hnb : (n : Int) ≤ 4096 := by have := HM.out; have := HN.out; omega
            clear hB hpos hk h1
            go_wp2_with fail
            refine HJJ.out.mono ?_
            rintro e w2 ⟨rfl, hB2⟩
            have hBB := HHB.out.trans (hB2.mono HHB.out.size)
            by_cases h4 : 4096 < js.length
            · have h4' : (4096 : Int) < ((str js).size : Int) := by rw [HJS.out]; omega
              have HZR : Hid (z = (19, [])) := by show _ = _; rw [HZ2.out, if_pos h4]
              clear HZ2 h4
              go_simp
              go_wp2_with fail
              go_ret2
              rw [HZR.out]
              exact ⟨rfl, hBB⟩
            · have h4' : ¬ (4096 : Int) < ((str js).size : Int) := by rw [HJS.out]; omega
              have HZR : Hid (z = (0, js)) := by show _ = _; rw [HZ2.out, if_neg h4]
              clear HZ2 h4
              go_simp
              go_wp2_with fail
              go_ret2
              rw [HZR.out]
              exact ⟨rfl, hBB⟩
          · have HZR : Hid (z = (9, [])) := by
              show _ = _; rw [HZ.out, HF0.out, HLK.out]; simp [hk3]
            have hk3q : (kd != 3) = true := by simpa using hk3
            clear HZ HF0 HLK hx x2 x3 hl0 hn hk3 HVV HJ
            rw [HN.out, Nat.add_sub_cancel] at x1
            rw [HN.out] at hl0' hkt hk ⊢
            have hnb : (n : Int) ≤ 4096 := by have := HM.out; have := HN.out; omega
            clear hB hpos hk h1
            go_wp2_with fail
            go_ret2
            rw [HZR.out]
            exact ⟨rfl, HHB.out⟩

end Go.Proofs.YtkeglokokleonaaDoor
