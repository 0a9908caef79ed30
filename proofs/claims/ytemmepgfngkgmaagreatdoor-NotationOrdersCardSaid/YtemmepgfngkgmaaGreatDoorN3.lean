/-
  Signed numbers: contracts of the reference's Natural, of lexer.Signed and of the reference's Signed.
-/
import Derived.Test.YtemmepgfngkgmaaGreatDoorN2
namespace Go.Proofs.YtemmepgfngkgmaaGreatDoor
open Go.RowKit
set_option linter.unusedVariables false
set_option linter.unusedSimpArgs false

theorem natR_bd (l : List UInt8) : 0 ≤ (natR l).1 ∧ (natR l).1 ≤ 1099511627776 := by
  unfold natR
  split
  · simp
  · split
    · simp
    · dsimp only; omega
theorem natB_eq (l : List UInt8) : natB l = ((!l.isEmpty && l.all isDig) && !(decide (1 < l.length) && decide (l.head? = some 48))) := by
  unfold natB
  cases l with
  | nil => rfl
  | cons c r =>
    rw [Bool.eq_iff_iff]
    simp
    intro _ _
    exact or_comm

set_option maxRecDepth 100000 in
set_option maxHeartbeats 4000000 in
theorem r_Natural (l : List UInt8) (w : World) (hl : l.length ≤ 4096) :
    Calls Tryz.prog 115 #[.string (str l)] w fun e w' => e = .returned (.tuple #[.int .i64 (natR l).1, .int .i64 (natR l).2]) ∧ w' = w := by
  have hd := hid (r_digits l w (by omega))
  have hb := natB_eq l
  unfold natR
  cases hdg : (!l.isEmpty && l.all isDig) with
  | false =>
    rw [hdg] at hb hd
    rw [hb, Bool.false_and, if_pos rfl]
    clear hb hdg
    go_enter Tryz.func115, Tryz.ntmps115
    go_wp2_with fail
    refine hd.out.mono ?_
    rintro e w1 ⟨rfl, rfl⟩
    dsimp only
    go_wp2_with fail
    go_ret2
    exact ⟨rfl, rfl⟩
  | true =>
    rw [hdg] at hb hd
    have h0 : 0 < l.length := by cases l with | nil => simp at hdg | cons => simp
    have hall : l.all isDig = true := by simp only [Bool.and_eq_true] at hdg; exact hdg.2
    have hs0 : 0 < (str l).size := by rw [str_size]; exact h0
    have e0 : (str l)[0]'hs0 = l[0] := rfl
    have hhd : l.head? = some l[0] := by cases l with | nil => simp at h0 | cons => rfl
    have hsz : (str l).size = l.length := str_size l
    by_cases hbad : 1 < l.length ∧ l.head? = some 48
    · rw [show decide (1 < l.length) = true from decide_eq_true hbad.1, show decide (l.head? = some 48) = true from decide_eq_true hbad.2] at hb
      rw [hb, if_pos (by rfl)]
      have h1 : (1 : Int) < ((str l).size : Int) := by rw [str_size]; omega
      have h48 : (((((str l)[0]'hs0).toNat : Nat) : Int) == 48) = true := by
        rw [e0]
        have := hbad.2
        rw [hhd] at this
        rw [Option.some.inj this]; rfl
      clear hb hdg hall e0 hhd hsz hbad
      go_enter Tryz.func115, Tryz.ntmps115
      go_wp2_with fail
      refine hd.out.mono ?_
      rintro e w1 ⟨rfl, rfl⟩
      dsimp only
      go_wp2_with fail
      go_ret2
      exact ⟨rfl, rfl⟩
    · have hnb : natB l = true := by
        rw [hb]
        by_cases q : 1 < l.length
        · have : ¬ l.head? = some 48 := fun h => hbad ⟨q, h⟩
          simp [q, this]
        · simp [q]
      rw [if_neg (by rw [hnb]; decide)]
      have HALL := hid hall
      have HSZ := hid hsz
      have hwalk : ∀ (h48 : 1 < l.length → (((((str l)[0]'hs0).toNat : Nat) : Int) == 48) = false), Calls Tryz.prog 115 #[.string (str l)] w fun e w' => e = .returned (.tuple #[.int .i64 (if 1099511627776 < numOf l then ((0 : Int), (11 : Int)) else ((numOf l : Int), 0)).1, .int .i64 (if 1099511627776 < numOf l then ((0 : Int), (11 : Int)) else ((numOf l : Int), 0)).2]) ∧ w' = w := by
        intro h48
        obtain ⟨z, hz⟩ : ∃ z : Int × Int, z = (if 1099511627776 < numOf l then ((0 : Int), (11 : Int)) else ((numOf l : Int), 0)) := ⟨_, rfl⟩
        rw [← hz]
        have HZ := hid hz
        by_cases h1 : 1 < l.length
        all_goals
          have h1' : (1 : Int) < ((str l).size : Int) ∨ ¬ (1 : Int) < ((str l).size : Int) := by omega
          have h1i := show (if 1 < l.length then (1 : Int) < ((str l).size : Int) else ¬ (1 : Int) < ((str l).size : Int)) by rw [hsz]; split <;> omega
          first | rw [if_pos h1] at h1i | rw [if_neg h1] at h1i
          first | have h4 := h48 h1 | skip
          clear hb hdg hall e0 hhd hsz hbad hnb hz h48 h1 h1'
          go_enter Tryz.func115, Tryz.ntmps115
          go_wp2_with fail
          refine hd.out.mono ?_
          rintro e w1 ⟨rfl, rfl⟩
          dsimp only
          go_wp2_with fail
          go_loop [4, 5] (fun n i => ∃ k : Nat, k ≤ l.length ∧ i = .int .i64 k ∧ n = .int .i64 (numOf (l.take k)) ∧ numOf (l.take k) ≤ 1099511627776) (fun _ i => l.length - (intOf i).toNat)
          case atStart => exact ⟨0, Nat.zero_le _, rfl, rfl, by simp [numOf]⟩
          case round =>
            obtain ⟨k, hk, rfl, rfl, hm⟩ := hrel
            have HS2 := HSZ.out
            by_cases hlt : k < l.length
            · have hks : k < (str l).size := by omega
              have hkl : (k : Int) < ((str l).size : Int) := by omega
              have hk0 : (0 : Int) ≤ (k : Int) := by omega
              have ha := List.all_eq_true.1 HALL.out l[k] (List.getElem_mem hlt)
              have hdd := digs (show isDig ((str l)[k]'hks) = true from ha)
              have hsn : numOf (l.take (k + 1)) = 10 * numOf (l.take k) + (((str l)[k]'hks).toNat - 48) := numOf_snoc l k hlt
              have hmt := numOf_take l (k + 1)
              have HSN := hid hsn
              have HMT := hid hmt
              clear ha hsn hmt HS2
              generalize numOf (l.take k) = v at *
              have h256 : ((((str l)[k]'hks).toNat : Int) - 48) % 256 = (((str l)[k]'hks).toNat : Int) - 48 := by omega
              by_cases hbig : (1099511627776 : Int) < 10 * (v : Int) + ((((str l)[k]'hks).toNat : Int) - 48)
              · have HB := hid hbig
                have HD := hid hdd
                clear hdd
                go_wp2_with fail
                go_ret2
                rw [HZ.out, if_pos (by have := HSN.out; have := HMT.out; have := HB.out; have := HD.out; omega)]
                exact ⟨rfl, rfl⟩
              · have HB := hid hbig
                have HD := hid hdd
                clear hdd
                go_wp2_with fail
                go_round
                case rel => exact ⟨k + 1, by omega, by go_num, by rw [HSN.out]; congr 1; have := HD.out; omega, by rw [HSN.out]; have := HB.out; have := HD.out; omega⟩
                case measure => simp [intOf]; omega
            · obtain rfl : k = l.length := by omega
              have hkl : ¬ (l.length : Int) < ((str l).size : Int) := by omega
              rw [List.take_length] at hm ⊢
              have HM := hid hm
              generalize numOf l = v at *
              clear hm HS2
              go_wp2_with fail
              go_ret2
              rw [HZ.out, if_neg (by have := HM.out; omega)]
              exact ⟨rfl, rfl⟩
      refine hwalk fun q => ?_
      rw [e0]
      have : ¬ l.head? = some 48 := fun h => hbad ⟨q, h⟩
      rw [hhd] at this
      have h2 : l[0] ≠ 48 := fun e => this (by rw [e])
      have h3 : l[0].toNat ≠ 48 := fun e => h2 (by rw [← UInt8.toNat_inj]; exact e)
      simp only [beq_eq_false_iff_ne, ne_eq]
      omega

-- SIGNED

set_option maxRecDepth 100000 in
set_option maxHeartbeats 4000000 in
theorem lx_Signed (l : List Tok) (i : Nat) (v : Value) (w : World) (hE : Env w) (hv : ToksR w v l) (hi : i < l.length) (hl : l.length ≤ 4097) (ht : ∀ k : Nat, (l[k]?.getD default).text.length ≤ 4096) :
    Calls Tryz.prog 82 #[v, .int .i64 i] w fun e w' => e = .returned (.tuple #[.int .i64 (signedR l i).1, .int .i64 (signedR l i).2.1, .int .i64 (signedR l i).2.2]) ∧ Below w.heap.size w w' := by
  obtain ⟨a, cap, rfl, hcap, hcm, _, hc⟩ := hv
  obtain ⟨b, off, rfl, hb, hc⟩ := hc.tok (by omega)
  obtain ⟨x0, x1, _⟩ := hc i hi
  have hil : (i : Int) < (l.length : Int) := by omega
  have hi0 : (0 : Int) ≤ (i : Int) := by omega
  have hn1 := hid (lx_Natural (l[i]?.getD default).text w hE (ht i))
  have hn2 := hid (lx_Natural (l[i + 1]?.getD default).text w hE (ht (i + 1)))
  have hbd1 := hid (natR_bd (l[i]?.getD default).text)
  have hbd2 := hid (natR_bd (l[i + 1]?.getD default).text)
  have se1 := str_eql (l[i]?.getD default).text [45]
  have se1' := str_eql (l[i]?.getD default).text [48]
  have se2 := str_eql (l[i + 1]?.getD default).text [48]
  have HY := hid (fun h => hc (i + 1) h)
  have hni : ¬ l.length ≤ i := by omega
  obtain ⟨S, hS⟩ : ∃ S, S = signedR l i := ⟨_, rfl⟩
  rw [← hS]
  have HS := hid hS
  have HNI := hid hni
  clear hS hni
  have wi : IntKind.i64.wrap ((i : Int) + 1) = (i : Int) + 1 := IntWalk.i64_in _ (by omega)
  clear hc ht hi hE
  generalize hX : l[i]?.getD default = x at *
  obtain ⟨xk, xt, xp⟩ := x
  have HX := hid hX
  clear hX
  dsimp only at x0 x1 hn1 hbd1 se1 se1'
  by_cases hk2 : xk = 2
  · subst hk2
    by_cases ht45 : xt = [45]
    · subst ht45
      clear se1 se1' hn1 hbd1
      have e45 : (str [45]).toList = ({ data := #[45] } : ByteArray).toList := rfl
      by_cases hend : l.length ≤ i + 1
      · have hE1 : l.length = i + 1 := by omega
        obtain rfl : S = (0, 0, 4) := by rw [HS.out]; unfold signedR; simp [HX.out, HNI.out, hend]
        rw [hE1] at hil hcap ⊢
        have q : (((i : Int) + 1) == ((i + 1 : Nat) : Int)) = true := by simp
        clear HY hn2 hbd2 se2 hE1 hend
        go_enter Tryz.func82, Tryz.ntmps82
        go_wp2_with fail
        go_ret3
        exact ⟨rfl, Below.refl _ _⟩
      · obtain ⟨y0, y1, _⟩ := HY.out (by omega)
        have q : (((i : Int) + 1) == (l.length : Int)) = false := by simp; omega
        have hil2 : (i : Int) + 1 < (l.length : Int) := by omega
        have hi02 : (0 : Int) ≤ (i : Int) + 1 := by omega
        have hnat : ((i : Int) + 1).toNat = i + 1 := by omega
        clear HY
        generalize hY : l[i + 1]?.getD default = y at *
        obtain ⟨yk, yt, yp⟩ := y
        dsimp only at y0 y1 hn2 hbd2 se2
        by_cases hy1 : yk = 1
        · subst hy1
          by_cases hz : yt = [48]
          · subst hz
            obtain rfl : S = (0, 0, 4) := by rw [HS.out]; unfold signedR; simp [HX.out, HNI.out, hend, hY]
            clear se2 hn2 hbd2 hend hY
            have e48 : (str [48]).toList = ({ data := #[48] } : ByteArray).toList := rfl
            go_enter Tryz.func82, Tryz.ntmps82
            go_wp2_with fail
            go_ret3
            exact ⟨rfl, Below.refl _ _⟩
          · have se3 : ((str yt).toList == (str [48]).toList) = false := by rw [se2]; simpa using hz
            have se4 : ((str yt).toList == [48]) = false := by rw [ByteArray.toList_eq (str [48])] at se3; exact se3
            by_cases hr : (natR yt).2 = 0
            · obtain rfl : S = (-(natR yt).1, (i : Int) + 1 + 1, 0) := by rw [HS.out]; unfold signedR; simp [HX.out, HNI.out, hend, hY, hz, hr]
              rw [hr] at hn2
              have hb0 := hbd2.out
              generalize (natR yt).1 = n at *
              have wn : IntKind.i64.wrap (-1 * n) = -1 * n := IntWalk.i64_in _ (by omega)
              have wn2 : IntKind.i64.wrap (-n) = -n := IntWalk.i64_in _ (by omega)
              have wj : IntKind.i64.wrap ((i : Int) + 1 + 1) = (i : Int) + 1 + 1 := IntWalk.i64_in _ (by omega)
              clear hbd2 hr se2 hend hz hY
              go_enter Tryz.func82, Tryz.ntmps82
              go_wp2_with fail
              refine hn2.out.mono ?_
              rintro e w1 ⟨rfl, hB⟩
              dsimp only
              go_wp2_with fail
              go_ret3
              exact ⟨by first | rfl | (simp; done) | (simp; omega), hB⟩
            · obtain rfl : S = (0, 0, (natR yt).2) := by rw [HS.out]; unfold signedR; simp [HX.out, HNI.out, hend, hY, hz, hr]
              have hr' : ((natR yt).2 != 0) = true := by simpa using hr
              generalize (natR yt).2 = ee at *
              clear hbd2 hr se2 hend hz hY
              go_enter Tryz.func82, Tryz.ntmps82
              go_wp2_with fail
              refine hn2.out.mono ?_
              rintro e w1 ⟨rfl, hB⟩
              dsimp only
              go_wp2_with fail
              go_ret3
              exact ⟨rfl, hB⟩
        · obtain rfl : S = (0, 0, 4) := by rw [HS.out]; unfold signedR; simp [HX.out, HNI.out, hend, hY, hy1]
          have hy' : (yk == 1) = false := by simpa using hy1
          have hy'' : (yk != 1) = true := by simpa using hy1
          clear se2 hn2 hbd2 hend hy1 hY
          go_enter Tryz.func82, Tryz.ntmps82
          go_wp2_with fail
          go_ret3
          exact ⟨rfl, Below.refl _ _⟩
    · obtain rfl : S = (0, 0, 4) := by rw [HS.out]; unfold signedR; simp [HX.out, HNI.out, ht45]
      have se3 : ((str xt).toList == (str [45]).toList) = false := by rw [se1]; simpa using ht45
      have se4 : ((str xt).toList == [45]) = false := by rw [ByteArray.toList_eq (str [45])] at se3; exact se3
      have q : ((i : Int) == (l.length : Int)) = false := by simp; omega
      clear HY hn1 hn2 hbd1 hbd2 se1 se1' se2 ht45
      go_enter Tryz.func82, Tryz.ntmps82
      go_wp2_with fail
      go_ret3
      exact ⟨rfl, Below.refl _ _⟩
  · have hk2' : (xk == 2) = false := by simpa using hk2
    have q : ((i : Int) == (l.length : Int)) = false := by simp; omega
    clear HY hn2 hbd2 se1 se2
    by_cases hx1 : xk = 1
    · subst hx1
      clear hk2 se1'
      by_cases hr : (natR xt).2 = 0
      · obtain rfl : S = ((natR xt).1, (i : Int) + 1, 0) := by rw [HS.out]; unfold signedR; simp [HX.out, HNI.out, hr]
        rw [hr] at hn1
        have hb0 := hbd1.out
        generalize (natR xt).1 = n at *
        have wn : IntKind.i64.wrap (1 * n) = 1 * n := IntWalk.i64_in _ (by omega)
        have w1n : IntKind.i64.wrap n = n := IntWalk.i64_in _ (by omega)
        clear hbd1 hr
        go_enter Tryz.func82, Tryz.ntmps82
        go_wp2_with fail
        refine hn1.out.mono ?_
        rintro e w1 ⟨rfl, hB⟩
        dsimp only
        go_wp2_with fail
        go_ret3
        exact ⟨by first | rfl | (simp; done) | (simp; omega), hB⟩
      · obtain rfl : S = (0, 0, (natR xt).2) := by rw [HS.out]; unfold signedR; simp [HX.out, HNI.out, hr]
        have hr' : ((natR xt).2 != 0) = true := by simpa using hr
        generalize (natR xt).2 = ee at *
        clear hbd1 hr
        go_enter Tryz.func82, Tryz.ntmps82
        go_wp2_with fail
        refine hn1.out.mono ?_
        rintro e w1 ⟨rfl, hB⟩
        dsimp only
        go_wp2_with fail
        go_ret3
        exact ⟨rfl, hB⟩
    · obtain rfl : S = (0, 0, 4) := by rw [HS.out]; unfold signedR; simp [HX.out, HNI.out, hk2, hx1]
      have hy' : (xk == 1) = false := by simpa using hx1
      have hy'' : (xk != 1) = true := by simpa using hx1
      clear hn1 hbd1 se1' hx1 hk2
      go_enter Tryz.func82, Tryz.ntmps82
      go_wp2_with fail
      go_ret3
      exact ⟨rfl, Below.refl _ _⟩

set_option maxRecDepth 100000 in
set_option maxHeartbeats 4000000 in
theorem r_Signed (l : List Tok) (i : Nat) (v : Value) (w : World) (hv : ToksR w v l) (hi : i < l.length) (hl : l.length ≤ 4097) (ht : ∀ k : Nat, (l[k]?.getD default).text.length ≤ 4096) :
    Calls Tryz.prog 84 #[v, .int .i64 i] w fun e w' => e = .returned (.tuple #[.int .i64 (signedR l i).1, .int .i64 (signedR l i).2.1, .int .i64 (signedR l i).2.2]) ∧ w' = w := by
  obtain ⟨a, cap, rfl, hcap, hcm, _, hc⟩ := hv
  obtain ⟨b, off, rfl, hb, hc⟩ := hc.tok (by omega)
  obtain ⟨x0, x1, _⟩ := hc i hi
  have hil : (i : Int) < (l.length : Int) := by omega
  have hi0 : (0 : Int) ≤ (i : Int) := by omega
  have hn1 := hid (r_Natural (l[i]?.getD default).text w (ht i))
  have hn2 := hid (r_Natural (l[i + 1]?.getD default).text w (ht (i + 1)))
  have hbd1 := hid (natR_bd (l[i]?.getD default).text)
  have hbd2 := hid (natR_bd (l[i + 1]?.getD default).text)
  have se1 := str_eql (l[i]?.getD default).text [45]
  have se1' := str_eql (l[i]?.getD default).text [48]
  have se2 := str_eql (l[i + 1]?.getD default).text [48]
  have HY := hid (fun h => hc (i + 1) h)
  have hni : ¬ l.length ≤ i := by omega
  obtain ⟨S, hS⟩ : ∃ S, S = signedR l i := ⟨_, rfl⟩
  rw [← hS]
  have HS := hid hS
  have HNI := hid hni
  clear hS hni
  have wi : IntKind.i64.wrap ((i : Int) + 1) = (i : Int) + 1 := IntWalk.i64_in _ (by omega)
  clear hc ht hi
  generalize hX : l[i]?.getD default = x at *
  obtain ⟨xk, xt, xp⟩ := x
  have HX := hid hX
  clear hX
  dsimp only at x0 x1 hn1 hbd1 se1 se1'
  by_cases hk2 : xk = 2
  · subst hk2
    by_cases ht45 : xt = [45]
    · subst ht45
      clear se1 se1' hn1 hbd1
      have e45 : (str [45]).toList = ({ data := #[45] } : ByteArray).toList := rfl
      by_cases hend : l.length ≤ i + 1
      · have hE1 : l.length = i + 1 := by omega
        obtain rfl : S = (0, 0, 4) := by rw [HS.out]; unfold signedR; simp [HX.out, HNI.out, hend]
        rw [hE1] at hil hcap ⊢
        have q : (((i : Int) + 1) == ((i + 1 : Nat) : Int)) = true := by simp
        clear HY hn2 hbd2 se2 hE1 hend
        go_enter Tryz.func84, Tryz.ntmps84
        go_wp2_with fail
        go_ret3
        exact ⟨rfl, rfl⟩
      · obtain ⟨y0, y1, _⟩ := HY.out (by omega)
        have q : (((i : Int) + 1) == (l.length : Int)) = false := by simp; omega
        have hil2 : (i : Int) + 1 < (l.length : Int) := by omega
        have hi02 : (0 : Int) ≤ (i : Int) + 1 := by omega
        have hnat : ((i : Int) + 1).toNat = i + 1 := by omega
        clear HY
        generalize hY : l[i + 1]?.getD default = y at *
        obtain ⟨yk, yt, yp⟩ := y
        dsimp only at y0 y1 hn2 hbd2 se2
        by_cases hy1 : yk = 1
        · subst hy1
          by_cases hz : yt = [48]
          · subst hz
            obtain rfl : S = (0, 0, 4) := by rw [HS.out]; unfold signedR; simp [HX.out, HNI.out, hend, hY]
            clear se2 hn2 hbd2 hend hY
            have e48 : (str [48]).toList = ({ data := #[48] } : ByteArray).toList := rfl
            go_enter Tryz.func84, Tryz.ntmps84
            go_wp2_with fail
            go_ret3
            exact ⟨rfl, rfl⟩
          · have se3 : ((str yt).toList == (str [48]).toList) = false := by rw [se2]; simpa using hz
            have se4 : ((str yt).toList == [48]) = false := by rw [ByteArray.toList_eq (str [48])] at se3; exact se3
            by_cases hr : (natR yt).2 = 0
            · obtain rfl : S = (-(natR yt).1, (i : Int) + 1 + 1, 0) := by rw [HS.out]; unfold signedR; simp [HX.out, HNI.out, hend, hY, hz, hr]
              rw [hr] at hn2
              have hb0 := hbd2.out
              generalize (natR yt).1 = n at *
              have wn : IntKind.i64.wrap (-1 * n) = -1 * n := IntWalk.i64_in _ (by omega)
              have wn2 : IntKind.i64.wrap (-n) = -n := IntWalk.i64_in _ (by omega)
              have wj : IntKind.i64.wrap ((i : Int) + 1 + 1) = (i : Int) + 1 + 1 := IntWalk.i64_in _ (by omega)
              clear hbd2 hr se2 hend hz hY
              go_enter Tryz.func84, Tryz.ntmps84
              go_wp2_with fail
              refine hn2.out.mono ?_
              rintro e w1 ⟨rfl, rfl⟩
              dsimp only
              go_wp2_with fail
              go_ret3
              exact ⟨by first | rfl | (simp; done) | (simp; omega), rfl⟩
            · obtain rfl : S = (0, 0, (natR yt).2) := by rw [HS.out]; unfold signedR; simp [HX.out, HNI.out, hend, hY, hz, hr]
              have hr' : ((natR yt).2 != 0) = true := by simpa using hr
              generalize (natR yt).2 = ee at *
              clear hbd2 hr se2 hend hz hY
              go_enter Tryz.func84, Tryz.ntmps84
              go_wp2_with fail
              refine hn2.out.mono ?_
              rintro e w1 ⟨rfl, rfl⟩
              dsimp only
              go_wp2_with fail
              go_ret3
              exact ⟨rfl, rfl⟩
        · obtain rfl : S = (0, 0, 4) := by rw [HS.out]; unfold signedR; simp [HX.out, HNI.out, hend, hY, hy1]
          have hy' : (yk == 1) = false := by simpa using hy1
          have hy'' : (yk != 1) = true := by simpa using hy1
          clear se2 hn2 hbd2 hend hy1 hY
          go_enter Tryz.func84, Tryz.ntmps84
          go_wp2_with fail
          go_ret3
          exact ⟨rfl, rfl⟩
    · obtain rfl : S = (0, 0, 4) := by rw [HS.out]; unfold signedR; simp [HX.out, HNI.out, ht45]
      have se3 : ((str xt).toList == (str [45]).toList) = false := by rw [se1]; simpa using ht45
      have se4 : ((str xt).toList == [45]) = false := by rw [ByteArray.toList_eq (str [45])] at se3; exact se3
      have q : ((i : Int) == (l.length : Int)) = false := by simp; omega
      clear HY hn1 hn2 hbd1 hbd2 se1 se1' se2 ht45
      go_enter Tryz.func84, Tryz.ntmps84
      go_wp2_with fail
      go_ret3
      exact ⟨rfl, rfl⟩
  · have hk2' : (xk == 2) = false := by simpa using hk2
    have q : ((i : Int) == (l.length : Int)) = false := by simp; omega
    clear HY hn2 hbd2 se1 se2
    by_cases hx1 : xk = 1
    · subst hx1
      clear hk2 se1'
      by_cases hr : (natR xt).2 = 0
      · obtain rfl : S = ((natR xt).1, (i : Int) + 1, 0) := by rw [HS.out]; unfold signedR; simp [HX.out, HNI.out, hr]
        rw [hr] at hn1
        have hb0 := hbd1.out
        generalize (natR xt).1 = n at *
        have wn : IntKind.i64.wrap (1 * n) = 1 * n := IntWalk.i64_in _ (by omega)
        have w1n : IntKind.i64.wrap n = n := IntWalk.i64_in _ (by omega)
        clear hbd1 hr
        go_enter Tryz.func84, Tryz.ntmps84
        go_wp2_with fail
        refine hn1.out.mono ?_
        rintro e w1 ⟨rfl, rfl⟩
        dsimp only
        go_wp2_with fail
        go_ret3
        exact ⟨by first | rfl | (simp; done) | (simp; omega), rfl⟩
      · obtain rfl : S = (0, 0, (natR xt).2) := by rw [HS.out]; unfold signedR; simp [HX.out, HNI.out, hr]
        have hr' : ((natR xt).2 != 0) = true := by simpa using hr
        generalize (natR xt).2 = ee at *
        clear hbd1 hr
        go_enter Tryz.func84, Tryz.ntmps84
        go_wp2_with fail
        refine hn1.out.mono ?_
        rintro e w1 ⟨rfl, rfl⟩
        dsimp only
        go_wp2_with fail
        go_ret3
        exact ⟨rfl, rfl⟩
    · obtain rfl : S = (0, 0, 4) := by rw [HS.out]; unfold signedR; simp [HX.out, HNI.out, hk2, hx1]
      have hy' : (xk == 1) = false := by simpa using hx1
      have hy'' : (xk != 1) = true := by simpa using hx1
      clear hn1 hbd1 se1' hx1 hk2
      go_enter Tryz.func84, Tryz.ntmps84
      go_wp2_with fail
      go_ret3
      exact ⟨rfl, rfl⟩

end Go.Proofs.YtemmepgfngkgmaaGreatDoor
