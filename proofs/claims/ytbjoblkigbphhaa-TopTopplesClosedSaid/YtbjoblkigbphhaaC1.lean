/-
  Contracts for the closed game: the reference's Paid, Total, Check, Few; the program's own, Degree, joined, Check, Closed.
-/
import Derived.Test.YtbjoblkigbphhaaQ11
import Derived.Test.YtbjoblkigbphhaaAb6
import Derived.Test.YtbjoblkigbphhaaR21e
namespace Go.Proofs.Ytbjoblkigbphhaa
set_option linter.unusedVariables false
set_option linter.unusedSimpArgs false
open Go.RowKit Go.Shelf

theorem paid_step (ds : List Int) (k : Nat) (h : k < ds.length) : (ds.drop k).all (fun k => decide (0 ≤ k)) = (decide (0 ≤ ds[k]?.getD 0) && (ds.drop (k + 1)).all (fun k => decide (0 ≤ k))) := by
  rw [drop_step ds k h, List.all_cons]
  rfl
set_option maxRecDepth 100000 in
set_option maxHeartbeats 1000000 in
theorem r17_Paid (ds : List Int) (dv : Value) (w : World) (hd : IntsR w dv ds) :
    Calls Try.prog 39 #[dv] w fun e w' => e = .returned (.bool (ds.all fun k => decide (0 ≤ k))) ∧ w = w' := by
  obtain ⟨a, cap, rfl, hcap, hcm, hlen, hc⟩ := hd
  generalize hz : (ds.all fun k => decide (0 ≤ k)) = z
  have HZ : Hid ((ds.drop 0).all (fun k => decide (0 ≤ k)) = z) := hz
  clear hz
  go_enter Try.func39, Try.ntmps39
  go_wp2
  go_loopw [3] (fun i wr => ∃ k : Nat, k ≤ ds.length ∧ i = .int .i64 k ∧ Hid ((ds.drop k).all (fun k => decide (0 ≤ k)) = z) ∧ Hid (w = wr)) (fun i _ => ds.length - (intOf i).toNat)
  case atStart => exact ⟨0, Nat.zero_le _, rfl, HZ, rfl⟩
  case round =>
    obtain ⟨k, hk, rfl, HZ, HE⟩ := hrel
    obtain rfl := HE.out
    by_cases hlt : k < ds.length
    · obtain ⟨b', off', rfl, hb', hcs⟩ := hc.int (by omega)
      have c1 := hcs k hlt
      have hst := hid (paid_step ds k hlt)
      have hlt' : (k : Int) < (ds.length : Int) := by omega
      have hk0 : (0 : Int) ≤ (k : Int) := by omega
      clear hcs hc
      generalize ds[k]?.getD 0 = x at *
      by_cases h1 : x < 0
      · have hf : Hid (z = false) := by show _ = _; rw [← HZ.out, hst.out, show decide (0 ≤ x) = false by simp; omega]; rfl
        clear hst
        go_wp2
        all_goals (go_ret; exact ⟨by rw [hf.out]; rfl, rfl⟩)
      · have hn : Hid ((ds.drop (k + 1)).all (fun k => decide (0 ≤ k)) = z) := by
          show _ = _
          rw [← HZ.out, hst.out, show decide (0 ≤ x) = true by simp; omega]; rfl
        clear hst
        go_wp2
        go_roundw
        case rel => exact ⟨k + 1, by omega, by go_num, hn, True.intro⟩
        case measure => simp [intOf]; omega
    · have hf : Hid (z = true) := by show _ = _; rw [← HZ.out, show k = ds.length by omega, List.drop_length]; rfl
      have hlt' : ¬ (k : Int) < (ds.length : Int) := by omega
      clear hc
      go_wp2
      go_ret
      exact ⟨by rw [hf.out]; rfl, rfl⟩

theorem sum_bd (f : Nat → Int) (c : Int) (hc : 0 ≤ c) : ∀ n : Nat, (∀ k, k < n → -c ≤ f k ∧ f k ≤ c) → ∀ m, m ≤ n → -(c * m) ≤ sumTo f m ∧ sumTo f m ≤ c * m
  | n, h, 0, _ => ⟨by simp [sumTo], by simp [sumTo]⟩
  | n, h, m + 1, hm => by
    have h1 := sum_bd f c hc n h m (by omega)
    have h2 := h m (by omega)
    have e : sumTo f (m + 1) = sumTo f m + f m := rfl
    have e2 : c * ((m + 1 : Nat) : Int) = c * m + c := by rw [Int.natCast_add, Int.mul_add]; simp
    omega
theorem ds_bd {ds : List Int} {n : Int} (h : dErr ds n = 0) (m : Nat) (hm : m ≤ ds.length) : -12582912 ≤ sumTo (dOf ds) m ∧ sumTo (dOf ds) m ≤ 12582912 := by
  obtain ⟨h1, h2, h3, h4⟩ := dErr_ok h
  have h5 := sum_bd (dOf ds) 1048576 (by omega) ds.length (fun k hk => by
    have := h4 _ (List.getElem_mem hk)
    unfold dOf
    rw [List.getElem?_eq_getElem hk]
    exact this) m hm
  have : (1048576 : Int) * (m : Int) ≤ 1048576 * 12 := Int.mul_le_mul_of_nonneg_left (by omega) (by omega)
  omega

set_option maxRecDepth 100000 in
set_option maxHeartbeats 1000000 in
theorem r17_Total (ds : List Int) (dv : Value) (n : Int) (w : World) (hd : IntsR w dv ds) (he : dErr ds n = 0) :
    Calls Try.prog 19 #[dv] w fun e w' => e = .returned (.int .i64 (sumTo (dOf ds) ds.length)) ∧ w = w' := by
  obtain ⟨a, cap, rfl, hcap, hcm, hlen, hc⟩ := hd
  have HB := hid (fun m hm => ds_bd he m hm)
  obtain ⟨h1, h2, h3, _⟩ := dErr_ok he
  clear he
  go_enter Try.func19, Try.ntmps19
  go_wp2
  go_loopw [3, 4] (fun s i wr => ∃ k : Nat, k ≤ ds.length ∧ i = .int .i64 k ∧ Hid (s = .int .i64 (sumTo (dOf ds) k)) ∧ Hid (w = wr)) (fun _ i _ => ds.length - (intOf i).toNat)
  case atStart => exact ⟨0, Nat.zero_le _, rfl, rfl, rfl⟩
  case round =>
    obtain ⟨k, hk, rfl, HS, HE⟩ := hrel
    obtain rfl := HE.out
    obtain rfl := HS.out
    by_cases hlt : k < ds.length
    · obtain ⟨b', off', rfl, hb', hcs⟩ := hc.int (by omega)
      have c1 := hcs k hlt
      have hst : sumTo (dOf ds) (k + 1) = sumTo (dOf ds) k + ds[k]?.getD 0 := rfl
      have hbd := HB.out (k + 1) (by omega)
      rw [hst] at hbd
      have HST := hid hst
      have hlt' : (k : Int) < (ds.length : Int) := by omega
      have hk0 : (0 : Int) ≤ (k : Int) := by omega
      clear hcs hc hst
      generalize ds[k]?.getD 0 = x at *
      generalize sumTo (dOf ds) k = s at *
      have wx : IntKind.i64.wrap (s + x) = s + x := IntWalk.i64_in _ (by omega)
      go_wp2
      go_roundw
      case rel => exact ⟨k + 1, by omega, by go_num, by show _ = _; rw [HST.out], True.intro⟩
      case measure => simp [intOf]; omega
    · obtain rfl : k = ds.length := by omega
      have hlt' : ¬ (ds.length : Int) < (ds.length : Int) := by omega
      clear hc
      go_wp2
      go_ret
      exact ⟨rfl, rfl⟩

set_option maxRecDepth 100000 in
set_option maxHeartbeats 2000000 in
theorem r20_Check (g : G) (gv : Value) (ds : List Int) (dv : Value) (w : World) (hg : GrR w gv g) (hd : IntsR w dv ds) :
    Calls Try.prog 14 #[gv, dv] w fun e w' => e = .returned (.int .i64 (cgErr g ds)) ∧ Below w.heap.size w w' := by
  have hg' := hg
  obtain ⟨ev, rfl, _⟩ := hg'
  have hd' := hd
  obtain ⟨a, cap, rfl, hcap, hcm, hlen, hc⟩ := hd'
  generalize hz : cgErr g ds = z
  unfold cgErr at hz
  have hW : Below w.heap.size w (w.alloc (.cells #[.int .i64 g.n, ev] 24)) := by go_grown
  have hgr := hid (hg.below hW)
  have hdr := hid (hd.below hW)
  have HX := hid (Blk.new w #[.int .i64 g.n, ev] 24)
  generalize hW0 : w.alloc (.cells #[.int .i64 g.n, ev] 24) = W0 at *
  have c0 : W0.cell? ⟨w.heap.size, 0, none⟩ = some (.int .i64 g.n) := (HX.out.cell 0).trans rfl
  have c1 : W0.cell? ⟨w.heap.size, 1, none⟩ = some ev := (HX.out.cell 1).trans rfl
  have cl := HX.out.lt
  have HW := hid hW
  have HZ := hid hz
  clear hz hc hg hd hW
  have HC := hid (r08_Check g _ W0 hgr.out)
  by_cases hr : checkErr g = 0
  case neg =>
    have hb : (checkErr g != 0) = true := by simpa using hr
    have hz : Hid (z = checkErr g) := by have := HZ.out; rw [if_pos hr] at this; exact this.symm
    clear HZ hr
    go_enter Try.func14, Try.ntmps14
    go_upto_region 1 with fail
    (try rw [hW0])
    clear hW0
    go_wp2_with fail
    refine HC.out.mono ?_
    rintro e w1 ⟨rfl, hB1⟩
    dsimp only
    go_wp2_with fail
    go_ret
    exact ⟨ret_int (by rw [hz.out]), up HW.out hB1⟩
  have hb : (checkErr g != 0) = false := by simpa using hr
  have hk : Gok g := hr
  have HZ : Hid ((if parts g ≠ 1 then 13 else if dErr ds g.n ≠ 0 then dErr ds g.n else if ds.all (fun k => decide (0 ≤ k)) then (if 1048576 < sumTo (dOf ds) ds.length then 11 else 0) else 2) = z) := by have := HZ.out; rw [if_neg (by simpa using hr)] at this; exact this
  have HCN := hid (fun w h => r08_Connected g (.agg #[.int .i64 g.n, ev]) w h hk)
  clear hr
  go_enter Try.func14, Try.ntmps14
  go_upto_region 1 with fail
  (try rw [hW0])
  clear hW0
  go_wp2_with fail
  refine HC.out.mono ?_
  rintro e w1 ⟨rfl, hB1⟩
  have HB1 := hid hB1
  have HX1 := hid (HX.out.below hB1)
  have c0 : w1.cell? ⟨w.heap.size, 0, none⟩ = some (.int .i64 g.n) := (HX1.out.cell 0).trans rfl
  have c1 : w1.cell? ⟨w.heap.size, 1, none⟩ = some ev := (HX1.out.cell 1).trans rfl
  have cl := HX1.out.lt
  clear hB1
  dsimp only
  go_wp2_with fail
  refine (HCN.out w1 (hgr.out.below HB1.out)).mono ?_
  rintro e w2 ⟨rfl, hB2⟩
  have HB2 := hid (up HB1.out hB2)
  have HX2 := hid (HX.out.below HB2.out)
  have c0 : w2.cell? ⟨w.heap.size, 0, none⟩ = some (.int .i64 g.n) := (HX2.out.cell 0).trans rfl
  have c1 : w2.cell? ⟨w.heap.size, 1, none⟩ = some ev := (HX2.out.cell 1).trans rfl
  have cl := HX2.out.lt
  clear hB2 HCN HC
  dsimp only
  by_cases hp : parts g = 1
  case neg =>
    have hp' : (parts g == 1) = false := by simpa using hp
    have hz : Hid (z = 13) := by have := HZ.out; rw [if_pos hp] at this; exact this.symm
    clear HZ hp
    go_wp2_with fail
    go_ret
    exact ⟨ret_int (by rw [hz.out]), up HW.out HB2.out⟩
  have hp' : (parts g == 1) = true := by simpa using hp
  have HZ : Hid ((if dErr ds g.n ≠ 0 then dErr ds g.n else if ds.all (fun k => decide (0 ≤ k)) then (if 1048576 < sumTo (dOf ds) ds.length then 11 else 0) else 2) = z) := by have := HZ.out; rw [if_neg (by simpa using hp)] at this; exact this
  clear hp
  go_wp2_with fail
  refine (r17_Check ds _ _ w2 (hdr.out.below HB2.out)).mono ?_
  rintro e w3 ⟨rfl, rfl⟩
  dsimp only
  by_cases hde : dErr ds g.n = 0
  case neg =>
    have hb2 : (dErr ds g.n != 0) = true := by simpa using hde
    have hz : Hid (z = dErr ds g.n) := by have := HZ.out; rw [if_pos hde] at this; exact this.symm
    clear HZ hde
    go_wp2_with fail
    go_ret
    exact ⟨ret_int (by rw [hz.out]), up HW.out HB2.out⟩
  have hb2 : (dErr ds g.n != 0) = false := by simpa using hde
  have HZ : Hid ((if ds.all (fun k => decide (0 ≤ k)) then (if 1048576 < sumTo (dOf ds) ds.length then (11 : Int) else 0) else 2) = z) := by have := HZ.out; rw [if_neg (by simpa using hde)] at this; exact this
  have HT := hid (fun w h => r17_Total ds (.slice a ds.length cap) g.n w h hde)
  clear hde
  go_wp2_with fail
  refine (r17_Paid ds _ w2 (hdr.out.below HB2.out)).mono ?_
  rintro e w3 ⟨rfl, rfl⟩
  dsimp only
  cases hpd : (ds.all fun k => decide (0 ≤ k)) with
  | false =>
    have hz : Hid (z = 2) := by have := HZ.out; rw [hpd] at this; exact this.symm
    clear HZ hpd
    go_wp2_with fail
    go_ret
    exact ⟨ret_int (by rw [hz.out]), up HW.out HB2.out⟩
  | true =>
    have HZ : Hid ((if 1048576 < sumTo (dOf ds) ds.length then (11 : Int) else 0) = z) := by have := HZ.out; rw [hpd] at this; exact this
    clear hpd
    go_wp2_with fail
    refine (HT.out w2 (hdr.out.below HB2.out)).mono ?_
    rintro e w3 ⟨rfl, rfl⟩
    dsimp only
    generalize sumTo (dOf ds) ds.length = s at *
    by_cases hs : 1048576 < s
    · have hz : Hid (z = 11) := by have := HZ.out; rw [if_pos hs] at this; exact this.symm
      clear HZ
      go_wp2_with fail
      go_ret
      exact ⟨ret_int (by rw [hz.out]), up HW.out HB2.out⟩
    · have hz : Hid (z = 0) := by have := HZ.out; rw [if_neg hs] at this; exact this.symm
      clear HZ
      go_wp2_with fail
      go_ret
      exact ⟨ret_int (by rw [hz.out]), up HW.out HB2.out⟩

def few20 (g : G) (ds : List Int) : Bool := few18 g ds && (small17 ds || (cgErr g ds != 0))
set_option maxRecDepth 100000 in
set_option maxHeartbeats 2000000 in
theorem r20_Few (g : G) (gv : Value) (ds : List Int) (dv : Value) (w : World) (hg : GrR w gv g) (hd : IntsR w dv ds) :
    Calls Try.prog 13 #[gv, dv] w fun e w' => e = .returned (.bool (few20 g ds)) ∧ Below w.heap.size w w' := by
  have hg' := hg
  obtain ⟨ev, rfl, _⟩ := hg'
  have hW : Below w.heap.size w (w.alloc (.cells #[.int .i64 g.n, ev] 24)) := by go_grown
  have hgr := hid (hg.below hW)
  have hdr := hid (hd.below hW)
  have HX := hid (Blk.new w #[.int .i64 g.n, ev] 24)
  have hd' := hd
  obtain ⟨a, cap, rfl, _⟩ := hd'
  generalize hW0 : w.alloc (.cells #[.int .i64 g.n, ev] 24) = W0 at *
  have c0 : W0.cell? ⟨w.heap.size, 0, none⟩ = some (.int .i64 g.n) := (HX.out.cell 0).trans rfl
  have c1 : W0.cell? ⟨w.heap.size, 1, none⟩ = some ev := (HX.out.cell 1).trans rfl
  have cl := HX.out.lt
  have HW := hid hW
  clear hg hd hW
  generalize hz : few20 g ds = z
  unfold few20 at hz
  have HZ := hid hz
  clear hz
  go_enter Try.func13, Try.ntmps13
  go_upto_region 1 with fail
  (try rw [hW0])
  clear hW0
  go_wp2_with fail
  refine (r18_Few g _ ds _ W0 hgr.out hdr.out).mono ?_
  rintro e w1 ⟨rfl, hB1⟩
  have HB1 := hid hB1
  have HX1 := hid (HX.out.below hB1)
  have c0 : w1.cell? ⟨w.heap.size, 0, none⟩ = some (.int .i64 g.n) := (HX1.out.cell 0).trans rfl
  have c1 : w1.cell? ⟨w.heap.size, 1, none⟩ = some ev := (HX1.out.cell 1).trans rfl
  have cl := HX1.out.lt
  clear hB1
  dsimp only
  cases h1 : few18 g ds with
  | false =>
    have hz : Hid (z = false) := by have := HZ.out; rw [h1] at this; exact this.symm
    clear HZ h1
    go_wp2_with fail
    go_ret
    exact ⟨ret_bool (by rw [hz.out]), up HW.out HB1.out⟩
  | true =>
    have HZ : Hid ((small17 ds || (cgErr g ds != 0)) = z) := by have := HZ.out; rw [h1] at this; exact this
    clear h1
    go_wp2_with fail
    refine (r17_Small ds _ w1 (hdr.out.below HB1.out)).mono ?_
    rintro e w2 ⟨rfl, rfl⟩
    dsimp only
    cases h2 : small17 ds with
    | true =>
      have hz : Hid (z = true) := by have := HZ.out; rw [h2] at this; exact this.symm
      clear HZ h2
      go_wp2_with fail
      go_ret
      exact ⟨ret_bool (by rw [hz.out]), up HW.out HB1.out⟩
    | false =>
      have HZ : Hid ((cgErr g ds != 0) = z) := by have := HZ.out; rw [h2] at this; exact this
      clear h2
      go_wp2_with fail
      refine (r20_Check g _ ds _ w1 (hgr.out.below HB1.out) (hdr.out.below HB1.out)).mono ?_
      rintro e w2 ⟨rfl, hB2⟩
      dsimp only
      go_wp2_with fail
      go_ret
      exact ⟨ret_bool (by rw [HZ.out]), up HW.out (up HB1.out hB2)⟩

end Go.Proofs.Ytbjoblkigbphhaa
