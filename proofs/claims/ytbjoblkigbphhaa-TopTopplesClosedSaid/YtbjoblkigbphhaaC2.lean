/-
  Contracts for the closed game: the program's own, Degree, joined, Check, Closed.
-/
import Derived.Test.YtbjoblkigbphhaaC1
namespace Go.Proofs.Ytbjoblkigbphhaa
set_option linter.unusedVariables false
set_option linter.unusedSimpArgs false
open Go.RowKit Go.Shelf

set_option maxRecDepth 100000 in
set_option maxHeartbeats 2000000 in
theorem p_own1 (ds : List Int) (dv : Value) (b : Nat) (w : World) (hd : IntsR w dv ds) (hb : Blk w b #[dv] 26) (he : dErr ds ds.length = 0) :
    Calls Try.prog 46 #[.slice (some ⟨b, 0, none⟩) 1 1] w fun e w' => e = .returned (.int .i64 0) ∧ w = w' := by
  have c0 := hb.cell 0
  simp only [List.getElem?_toArray, List.getElem?_cons_zero] at c0
  have hlt := hb.lt
  have hd' := hd
  obtain ⟨a, cap, rfl, _⟩ := hd'
  have hp := hid (p_chips ds _ ds.length w hd)
  rw [he] at hp
  clear hd hb
  go_enter Try.func46, Try.ntmps46
  go_wp2_with fail
  go_loopw [10] (fun i wr => ∃ k : Nat, k ≤ 1 ∧ i = .int .i64 k ∧ Hid (w = wr)) (fun i _ => 1 - (intOf i).toNat)
  case atStart => exact ⟨0, by omega, rfl, rfl⟩
  case round =>
    obtain ⟨k, hk, rfl, HE⟩ := hrel
    obtain rfl := HE.out
    obtain rfl | rfl : k = 0 ∨ k = 1 := by omega
    · go_wp2_with fail
      refine hp.out.mono ?_
      rintro e w1 ⟨rfl, rfl⟩
      dsimp only
      go_wp2_with fail
      go_roundw
      case rel => exact ⟨1, by omega, by go_num, True.intro⟩
      case measure => simp [intOf]
    · clear hp
      go_wp2_with fail
      go_loopw [24] (fun i wr => ∃ k : Nat, k ≤ 1 ∧ i = .int .i64 k ∧ Hid (w = wr)) (fun i _ => 1 - (intOf i).toNat)
      case atStart => exact ⟨0, by omega, rfl, rfl⟩
      case round =>
        obtain ⟨k, hk, rfl, HE⟩ := hrel
        obtain rfl := HE.out
        obtain rfl | rfl : k = 0 ∨ k = 1 := by omega
        · have hne : ((ds.length : Int) != (ds.length : Int)) = false := by simp
          go_wp2_with fail
          go_roundw
          case rel => exact ⟨1, by omega, by go_num, True.intro⟩
          case measure => simp [intOf]
        · go_wp2_with fail
          go_ret
          exact ⟨rfl, rfl⟩

set_option maxRecDepth 100000 in
set_option maxHeartbeats 2000000 in
theorem p_Degree (ds : List Int) (dv : Value) (w : World) (hd : IntsR w dv ds) (he : dErr ds ds.length = 0) :
    Calls Try.prog 18 #[dv] w fun e w' => e = .returned (.tuple #[.int .i64 (sumTo (dOf ds) ds.length), .int .i64 0]) ∧ Below w.heap.size w w' := by
  have hd' := hd
  obtain ⟨a, cap, rfl, hcap, hcm, hlen, _⟩ := hd'
  have hW : Below w.heap.size w (w.alloc (.cells #[.slice a ds.length cap] 26)) := by go_grown
  have HO := hid (p_own1 ds _ _ _ (hd.below hW) (Blk.new w #[.slice a ds.length cap] 26) he)
  have hd1 := hd.below hW
  obtain ⟨_, _, e, _, _, _, hc⟩ := hd1
  injection e with e1 _ e3
  subst e1 e3
  have HB := hid (fun m hm => ds_bd he m hm)
  obtain ⟨h1, h2, h3, _⟩ := dErr_ok he
  have HW := hid hW
  clear he hd hW
  go_enter Try.func18, Try.ntmps18
  go_wp2_with fail
  refine HO.out.mono ?_
  rintro e w1 ⟨rfl, hw1⟩
  generalize w.alloc (.cells #[.slice a ds.length cap] 26) = W1 at *
  subst hw1
  dsimp only
  go_wp2_with fail
  go_loopw [5, 16] (fun s i wr => ∃ k : Nat, k ≤ ds.length ∧ i = .int .i64 k ∧ Hid (s = .int .i64 (sumTo (dOf ds) k)) ∧ Hid (W1 = wr)) (fun _ i _ => ds.length - (intOf i).toNat)
  case atStart => exact ⟨0, Nat.zero_le _, rfl, rfl, rfl⟩
  case round =>
    obtain ⟨k, hk, rfl, HS, HE⟩ := hrel
    obtain rfl := HE.out
    obtain rfl := HS.out
    by_cases hlt : k < ds.length
    · obtain ⟨b', off', rfl, hb', hcs⟩ := hc.int (by omega)
      have c1 := hcs k hlt
      have hst : sumTo (dOf ds) (k + 1) = sumTo (dOf ds) k + ds[k]?.getD 0 := rfl
      have hbd := HB.out (k + 1) (by omega)
      rw [hst] at hbd
      have HST := hid hst
      have hlt' : (k : Int) < (ds.length : Int) := by omega
      have hk0 : (0 : Int) ≤ (k : Int) := by omega
      clear hcs hc hst
      generalize ds[k]?.getD 0 = x at *
      generalize sumTo (dOf ds) k = s at *
      have wx : IntKind.i64.wrap (s + x) = s + x := IntWalk.i64_in _ (by omega)
      go_wp2
      go_roundw
      case rel => exact ⟨k + 1, by omega, by go_num, by show _ = _; rw [HST.out], True.intro⟩
      case measure => simp [intOf]; omega
    · obtain rfl : k = ds.length := by omega
      have hlt' : ¬ (ds.length : Int) < (ds.length : Int) := by omega
      clear hc
      go_wp2
      go_ret2
      exact ⟨rfl, HW.out⟩

set_option maxRecDepth 100000 in
set_option maxHeartbeats 2000000 in
theorem p_jn (g : G) (gv : Value) (w : World) (hg : GrR w gv g) (hk : Gok g) (hp : parts g = 1) :
    Calls Try.prog 64 #[gv] w fun e w' => e = .returned (.int .i64 0) ∧ Below w.heap.size w w' := by
  have hg' := hg
  obtain ⟨ev, rfl, _⟩ := hg'
  have hW : Below w.heap.size w (w.alloc (.cells #[.int .i64 g.n, ev] 24)) := by go_grown
  have HC := hid (p_Connected g _ _ (hg.below hW))
  have HK := hid hk
  have HP := hid hp
  have HW := hid hW
  clear hg hk hp hW
  go_enter Try.func64, Try.ntmps64
  go_wp2_with fail
  refine HC.out.mono ?_
  rintro e w1 ⟨hB, b, rfl, hb⟩
  have hck : checkErr g = 0 := HK.out
  have hb := hb hck
  rw [HP.out] at hb
  obtain rfl : b = true := hb
  rw [hck]
  have HB := hid hB
  clear hB hck hb
  dsimp only
  go_wp2_with fail
  go_ret
  exact ⟨rfl, up HW.out HB.out⟩

set_option maxHeartbeats 1000000 in
theorem c_MinD (l : List Int) (lv : Value) (w : World) (hl : IntsR w lv l) (h0 : 0 < l.length) :
    Calls Try.prog 65 #[lv] w fun e w' => e = .returned (.int .i64 (minTo l (l.length - 1))) ∧ w = w' := by
  obtain ⟨a, cap, rfl, hcap, hcm, hlen, hc⟩ := hl
  obtain ⟨b, off, rfl, hb, hc⟩ := hc.int h0
  have c0 := hc 0 h0
  rw [Nat.add_zero] at c0
  have HC := hid hc
  clear hc
  have hm0 : Hid (minTo l 0 = l[0]?.getD 0) := by
    show _ = _
    unfold minTo
    cases l with
    | nil => simp at h0
    | cons a l => simp [Int.min_self]
  rw [← hm0.out] at c0
  have h0' : (1 : Int) ≤ (l.length : Int) := by omega
  have h0'' : l.length ≠ 0 := by omega
  go_enter Try.func65, Try.ntmps65
  go_wp2
  go_loop [3, 4] (fun m i => ∃ k : Nat, k < l.length ∧ m = .int .i64 (minTo l k) ∧ i = .int .i64 (k + 1)) (fun _ i => l.length - (intOf i).toNat)
  case atStart => exact ⟨0, h0, rfl, rfl⟩
  case round =>
    obtain ⟨k, hk, rfl, rfl⟩ := hrel
    by_cases hlt : k + 1 < l.length
    · have c1 := HC.out (k + 1) hlt
      have hs := hid (minTo_step l k hlt)
      generalize l[k + 1]?.getD 0 = x at *
      go_wp2
      go_round
      case rel => exact ⟨k + 1, hlt, by rw [hs.out], by go_num⟩
      case measure => simp [intOf]; omega
    · have he : k = l.length - 1 := by omega
      subst he
      go_wp2
      go_ret
      exact ⟨rfl, rfl⟩

set_option maxRecDepth 100000 in
set_option maxHeartbeats 2000000 in
theorem p_cgCheck (g : G) (gv : Value) (ds : List Int) (dv : Value) (w : World) (hg : GrR w gv g) (hd : IntsR w dv ds) (h : CgOk g ds) :
    Calls Try.prog 40 #[gv, dv] w fun e w' => e = .returned (.int .i64 0) ∧ Below w.heap.size w w' := by
  have hg' := hg
  obtain ⟨ev, rfl, _⟩ := hg'
  have hd' := hd
  obtain ⟨a, cap, rfl, _⟩ := hd'
  have hW : Below w.heap.size w (w.alloc (.cells #[.int .i64 g.n, ev] 24)) := by go_grown
  have hdr := hid (hd.below hW)
  have HJ := hid (p_jn g _ _ (hg.below hW) h.gok h.con)
  have HX := hid (Blk.new w #[.int .i64 g.n, ev] 24)
  generalize hW0 : w.alloc (.cells #[.int .i64 g.n, ev] 24) = W0 at *
  have c0 : W0.cell? ⟨w.heap.size, 0, none⟩ = some (.int .i64 g.n) := (HX.out.cell 0).trans rfl
  have c1 : W0.cell? ⟨w.heap.size, 1, none⟩ = some ev := (HX.out.cell 1).trans rfl
  have cl := HX.out.lt
  have HW := hid hW
  have hn := h.gok.n
  have hl := h.len
  have hpos : 0 < ds.length := by omega
  have HCK := hid (fun w h2 => p_chips ds (.slice a ds.length cap) g.n w h2)
  have hde := h.dErr
  rw [hde] at HCK
  have HMN := hid (fun w h2 => c_MinD ds (.slice a ds.length cap) w h2 hpos)
  have hmn : ¬ minTo ds (ds.length - 1) < 0 := by
    rw [minTo_neg ds hpos]
    have h4 : ds.all (fun k => decide (0 ≤ k)) = true := List.all_eq_true.2 fun k hk => by simpa using (h.all k hk).1
    rw [h4]
    simp
  have hd2 : dErr ds ds.length = 0 := by rw [hl]; exact hde
  have HDG := hid (fun w h2 => p_Degree ds (.slice a ds.length cap) w h2 hd2)
  have hsm : ¬ 1048576 < sumTo (dOf ds) ds.length := by have := h.hi; omega
  generalize sumTo (dOf ds) ds.length = s at *
  generalize minTo ds (ds.length - 1) = mn at *
  clear hde hd2 h hg hd hW hl
  go_enter Try.func40, Try.ntmps40
  go_upto_region 1 with fail
  (try rw [hW0])
  clear hW0
  go_wp2_with fail
  refine HJ.out.mono ?_
  rintro e w1 ⟨rfl, hB1⟩
  have HB1 := hid hB1
  have HX1 := hid (HX.out.below hB1)
  have c0 : w1.cell? ⟨w.heap.size, 0, none⟩ = some (.int .i64 g.n) := (HX1.out.cell 0).trans rfl
  have c1 : w1.cell? ⟨w.heap.size, 1, none⟩ = some ev := (HX1.out.cell 1).trans rfl
  have cl := HX1.out.lt
  clear hB1
  dsimp only
  go_wp2_with fail
  refine (HCK.out w1 (hdr.out.below HB1.out)).mono ?_
  rintro e w2 ⟨rfl, rfl⟩
  dsimp only
  go_wp2_with fail
  refine (HMN.out w1 (hdr.out.below HB1.out)).mono ?_
  rintro e w2 ⟨rfl, rfl⟩
  dsimp only
  go_wp2_with fail
  refine (HDG.out w1 (hdr.out.below HB1.out)).mono ?_
  rintro e w2 ⟨rfl, hB2⟩
  dsimp only
  go_wp2_with fail
  go_ret
  exact ⟨rfl, up HW.out (up HB1.out hB2)⟩

/-- What a round of a closed game hands back. -/
def RetCl (w : World) (N : Nat) (L : Nat → Int) (l : List Int) (e : Ending) (w' : World) : Prop :=
  ∃ b c v, e = .returned (.tuple #[.slice (some ⟨b, 0, none⟩) N c, v, .int .i64 0]) ∧ w'.ownsRow w.heap.size 3 1 (.slice (some ⟨b, 0, none⟩) N c) N ((vecOf N L).map (Value.int .i64)) ∧ w'.ownsRow w.heap.size 3 1 v l.length (l.map (Value.int .i64)) ∧ Below w.heap.size w w'
set_option maxRecDepth 100000 in
set_option maxHeartbeats 2000000 in
theorem p_Closed (g : G) (gv : Value) (N : Nat) (hN : N = g.n.toNat) (L : Nat → Int) (dv : Value) (w : World) (hg : GrR w gv g) (hd : IntsR w dv (vecOf N L)) (h : CgOk g (vecOf N L)) :
    Calls Try.prog 16 #[gv, dv] w (RetCl w N (fireAll g (rdyN g (-1) N L) L) (rdyN g (-1) N L)) := by
  have hg' := hg
  obtain ⟨ev, rfl, _⟩ := hg'
  have hd' := hd
  obtain ⟨a, cap, rfl, _⟩ := hd'
  have hW : Below w.heap.size w (w.alloc (.cells #[.int .i64 g.n, ev] 24)) := by go_grown
  have hdr := hid (hd.below hW)
  have hgr := hid (hg.below hW)
  have HC := hid (p_cgCheck g _ _ _ _ (hg.below hW) (hd.below hW) h)
  have HX := hid (Blk.new w #[.int .i64 g.n, ev] 24)
  generalize hW0 : w.alloc (.cells #[.int .i64 g.n, ev] 24) = W0 at *
  have c0 : W0.cell? ⟨w.heap.size, 0, none⟩ = some (.int .i64 g.n) := (HX.out.cell 0).trans rfl
  have c1 : W0.cell? ⟨w.heap.size, 1, none⟩ = some ev := (HX.out.cell 1).trans rfl
  have cl := HX.out.lt
  have HW := hid hW
  have hn := h.gok.n
  have HN : Hid (0 < N ∧ N ≤ 12 ∧ (N : Int) ≤ g.n ∧ g.n ≤ (N : Int)) := by show _ ∧ _; omega
  have HK := hid h.gok
  have HLB : Hid (∀ u, u < N → -1000000000000 ≤ L u ∧ L u ≤ 1000000000000) := fun u hu => by
    have := h.each u (by rw [vecOf_len]; exact hu)
    rw [dOf_vec _ _ _ hu] at this
    omega
  have HRL := hid (rdy_lt g (-1) N L)
  have HRN := hid (rdy_len g (-1) N L)
  rw [vecOf_len] at *
  clear h hg hd hW hn hN
  go_enter Try.func16, Try.ntmps16
  go_upto_region 1 with fail
  (try rw [hW0])
  clear hW0
  go_wp2_with fail
  refine HC.out.mono ?_
  rintro e w1 ⟨rfl, hB1⟩
  have HB1 := hid hB1
  have HX1 := hid (HX.out.below hB1)
  have c0 : w1.cell? ⟨w.heap.size, 0, none⟩ = some (.int .i64 g.n) := (HX1.out.cell 0).trans rfl
  have c1 : w1.cell? ⟨w.heap.size, 1, none⟩ = some ev := (HX1.out.cell 1).trans rfl
  have cl := HX1.out.lt
  clear hB1 HC
  dsimp only
  go_wp2_with fail
  refine (q_of g _ N HN.out.2.2.1 HN.out.2.2.2 (-1) w1 (hgr.out.below HB1.out) HK.out).mono ?_
  rintro e w2 ⟨b, bv, go, bs, rfl, hbd, hB2⟩
  have HBD := hid hbd
  have HB2 := hid (up HB1.out hB2)
  clear hbd hB2
  dsimp only
  go_wp2_with fail
  refine (q_ready g (-1) N L _ w2 _ b bv go bs HN.out.2.1 HBD.out (hdr.out.below HB2.out)).mono ?_
  rintro e w3 ⟨lv, rfl, hown, hB3⟩
  have HL := hid (owns_ints hown (by have := HRN.out; have := HN.out.2.1; omega))
  have HB3 := hid (up HB2.out hB3)
  have HRL3 := hid (owns_base hown (show w.heap.size ≤ w2.heap.size from (up HW.out HB2.out).size))
  have HBD3 := hid (HBD.out.mono hB3)
  clear hown hB3
  dsimp only
  go_wp2_with fail
  refine (q_fire g HK.out (-1) N L _ lv _ w3 _ b bv go bs HN.out.1 HN.out.2.1 HBD3.out (hdr.out.below HB3.out) HL.out HRL.out (by have := HRN.out; have := HN.out.2.1; omega) HLB.out).mono ?_
  rintro e w4 ⟨nb, nc, rfl, hown, hB4⟩
  have HO := hid (owns_base hown (show w.heap.size ≤ w3.heap.size from (up HW.out HB3.out).size))
  have HL4 := hid (owns_below HRL3.out hB4)
  have HB4 := hid (up HB3.out hB4)
  clear hown hB4
  dsimp only
  go_wp2_with fail
  go_ret3
  exact ⟨_, _, _, rfl, HO.out, HL4.out, up HW.out HB4.out⟩

end Go.Proofs.Ytbjoblkigbphhaa
