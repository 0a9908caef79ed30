/-
  The reference: Shaped, Ribbon.
-/
import Derived.Test.YtemmepgfngkgmaaGreatDoorN50
namespace Go.Proofs.YtemmepgfngkgmaaGreatDoor
open Go.RowKit
set_option linter.unusedVariables false
set_option linter.unusedSimpArgs false

/-- The error of a ribbon graph. -/
def shErr (g : G) (ls : List (List Int)) : Int :=
  if checkErr g ≠ 0 then checkErr g else if (ls.length : Int) ≠ g.n then 8 else if ls.all (fun l => l.all (halfB (2 * ((endsOf g.es).length : Int)))) = false then 2 else 0
theorem ribR_sh (g : G) (ls : List (List Int)) : ribR g ls = if shErr g ls ≠ 0 then (shErr g ls, []) else limR (wRibbon ++ 32 :: (tabT 45 g ++ 32 :: 59 :: joinT [32, 47] (ls.map intsT))) := by
  unfold ribR shErr
  by_cases h1 : checkErr g ≠ 0
  · rw [if_pos h1, if_pos h1, if_pos h1]
  · rw [if_neg h1, if_neg h1]
    by_cases h2 : (ls.length : Int) ≠ g.n
    · rw [if_pos h2, if_pos h2, if_pos (by decide)]
    · rw [if_neg h2, if_neg h2]
      by_cases h3 : ls.all (fun l => l.all (halfB (2 * ((endsOf g.es).length : Int)))) = false
      · rw [if_pos h3, if_pos h3, if_pos (by decide)]
      · rw [if_neg h3, if_neg h3, if_neg (by decide)]
/-- Row k of the lists. -/
theorem LsR.at {w : World} {v : Value} {ls : List (List Int)} {a : Option Addr} {n cap : Nat} (h : LsR w v ls) (hv : v = .slice a n cap) (k : Nat) (hk : k < ls.length) :
    ∃ b off lv, a = some ⟨b, off, none⟩ ∧ b < w.heap.size ∧ w.cell? ⟨b, off + k, none⟩ = some lv ∧ IntsR w lv (ls[k]?.getD []) := by
  obtain ⟨a', cap', vs, e, _, _, _, hc, hl, hr⟩ := h
  rw [hv] at e
  injection e with e1 _ _
  subst e1
  rcases hc with hc | ⟨b, off, e2, hb, hc⟩
  · rw [hc] at hl; simp at hl; omega
  · refine ⟨b, off, vs[k]?.getD undef, e2, hb, ?_, hr k hk⟩
    rw [hc k (by omega), List.getElem?_eq_getElem (by omega)]
    rfl
theorem IntsR.at {w : World} {v : Value} {l : List Int} (h : IntsR w v l) : ∃ a cap, v = .slice a l.length cap ∧ l.length ≤ cap ∧ cap ≤ 9223372036854775807 ∧ ∀ k, k < l.length → ∃ b off, a = some ⟨b, off, none⟩ ∧ b < w.heap.size ∧ w.cell? ⟨b, off + k, none⟩ = some (.int .i64 (l[k]?.getD 0)) := by
  obtain ⟨a, cap, e, h1, h2, _, hc⟩ := h
  refine ⟨a, cap, e, h1, h2, fun k hk => ?_⟩
  obtain ⟨b, off, e2, hb, hc⟩ := hc.int (by omega)
  exact ⟨b, off, e2, hb, hc k hk⟩
theorem take_memL {ls : List (List Int)} {k : Nat} (hk : k < ls.length) : ∀ l ∈ ls.take (k + 1), l ∈ ls.take k ∨ l = ls[k]?.getD [] := fun l hl => by
  have e : ls.take (k + 1) = ls.take k ++ [ls[k]?.getD []] := take_step ls k hk
  rw [e] at hl
  simpa using hl
theorem load_grR {w : World} {b : Nat} {v0 v1 v2 : Value} (h : Blk w b #[v0, v1, v2] 40) : (loadVar 24 ⟨b, 0, none⟩).run Tryz.prog w = .ok (.agg #[v0, v1]) w := by
  have hlt := h.lt
  have c0 := h.cell 0
  have c1 := h.cell 1
  simp only [List.getElem?_toArray, List.getElem?_cons_zero, List.getElem?_cons_succ] at c0 c1
  go_simp

set_option maxRecDepth 100000 in
set_option maxHeartbeats 8000000 in
theorem q_Shaped (g : G) (ls : List (List Int)) (rv : Value) (w : World) (hr : RibR w rv (g, ls)) (hls : ls.length ≤ 10000) (hll : ∀ j : Nat, (ls[j]?.getD []).length ≤ 10000) :
    Calls Tryz.prog 62 #[rv] w fun e w' => e = .returned (.int .i64 (shErr g ls)) ∧ Below w.heap.size w w' := by
  obtain ⟨Z, HZ⟩ : ∃ Z, Hid (Z = shErr g ls) := ⟨_, rfl⟩
  rw [← HZ.out]
  have HLS := hid hls
  have HLL := hid hll
  obtain ⟨ev, lv, rfl, hE0, hL⟩ := hr
  have HE := hid hE0
  have HL := hid hL
  obtain ⟨ea, ecap, rfl, _⟩ := hE0
  obtain ⟨la, lcap, _, rfl, hcap, hcm, _⟩ := hL
  dsimp only at hcap hcm
  have hgb := hid (Blk.new w #[.int .i64 g.n, .slice ea g.es.length ecap, .slice la ls.length lcap] 40)
  have HB0 := hid ((Below.refl w.heap.size w).alloc (Nat.le_refl _) (.cells #[.int .i64 g.n, .slice ea g.es.length ecap, .slice la ls.length lcap] 40))
  have HG0 : Hid (GrR (w.alloc (.cells #[.int .i64 g.n, .slice ea g.es.length ecap, .slice la ls.length lcap] 40)) (.agg #[.int .i64 g.n, .slice ea g.es.length ecap]) g) := ⟨_, rfl, HE.out.below HB0.out⟩
  have HL0 := hid (HL.out.below HB0.out)
  clear HE HL hls hll
  go_enter Tryz.func62, Tryz.ntmps62
  go_upto_region 1 with fail
  (try dsimp only)
  generalize w.alloc (.cells #[.int .i64 g.n, .slice ea g.es.length ecap, .slice la ls.length lcap] 40) = W0 at *
  have c0 : W0.cell? ⟨w.heap.size, 0, none⟩ = some (.int .i64 g.n) := (hgb.out.cell 0).trans rfl
  have c1 : W0.cell? ⟨w.heap.size, 1, none⟩ = some (.slice ea g.es.length ecap) := (hgb.out.cell 1).trans rfl
  have hgl := hgb.out.lt
  go_wp2_with fail
  refine (r08_Check g _ W0 HG0.out).mono ?_
  rintro e w1 ⟨rfl, hB1⟩
  have HB1 := hid hB1
  have hgb1 := hid (hgb.out.below hB1)
  have HG1 := hid (HG0.out.below hB1)
  clear c0 c1 hgl hB1
  have hz := HZ.out
  unfold shErr at hz
  dsimp only
  by_cases hc : checkErr g = 0
  case neg =>
    have HZ2 : Hid (checkErr g = Z) := by show _ = _; rw [hz, if_pos hc]
    have hc1 : (checkErr g != 0) = true := by simpa using hc
    clear HZ hc hz
    go_wp2_with fail
    go_ret
    rw [HZ2.out]
    exact ⟨rfl, up HB0.out HB1.out⟩
  rw [if_neg (by omega)] at hz
  have HC := hid hc
  rw [hc]
  have c0 : w1.cell? ⟨w.heap.size, 0, none⟩ = some (.int .i64 g.n) := (hgb1.out.cell 0).trans rfl
  have c2 : w1.cell? ⟨w.heap.size, 2, none⟩ = some (.slice la ls.length lcap) := (hgb1.out.cell 2).trans rfl
  have hgl := hgb1.out.lt
  by_cases hn : (ls.length : Int) = g.n
  case neg =>
    have HZ2 : Hid (8 = Z) := by show _ = _; rw [hz, if_pos hn]
    have hn2 : ((ls.length : Int) != g.n) = true := by simpa using hn
    clear HZ hc hz hn
    go_wp2_with fail
    go_ret
    rw [← HZ2.out]
    exact ⟨rfl, up HB0.out HB1.out⟩
  rw [if_neg (by omega)] at hz
  have hn2 : ((ls.length : Int) != g.n) = false := by simpa using hn
  have HZ := hid hz
  have HPS := hid (r08_Size g (.agg #[.int .i64 g.n, .slice ea g.es.length ecap]) w1 HG1.out hc)
  have hsb := Gok.sizeOf_bd hc
  have HS : Hid (sizeOf g = ((endsOf g.es).length : Int)) := rfl
  have c1 : w1.cell? ⟨w.heap.size, 1, none⟩ = some (.slice ea g.es.length ecap) := (hgb1.out.cell 1).trans rfl
  clear hc hz hn
  go_upto_region 6 with fail
  go_wp2_with fail
  refine HPS.out.mono ?_
  rintro e w2 ⟨rfl, hB2⟩
  rw [HS.out] at hsb ⊢
  have HB2 := hid (up HB1.out hB2)
  clear hB2 c0 c1 c2 hgl HPS HS HB1 hgb1 HG1 HG0 hn2
  generalize hL : (endsOf g.es).length = L at *
  have hLb : L ≤ 7200 := by omega
  have wl : IntKind.i64.wrap (2 * (L : Int)) = 2 * (L : Int) := IntWalk.i64_in _ (by omega)
  clear hL hsb
  dsimp only
  go_wp2_with fail
  go_loopw [5] (fun i wr => ∃ k : Nat, k ≤ ls.length ∧ i = .int .i64 k ∧ Hid (∀ l ∈ ls.take k, l.all (halfB (2 * (L : Int))) = true) ∧ Hid (Below W0.heap.size W0 wr)) (fun i _ => ls.length - (intOf i).toNat)
  case atStart => exact ⟨0, Nat.zero_le _, rfl, (fun l hl => by simp at hl), HB2⟩
  case round =>
    clear HB2
    obtain ⟨k, hkn, rfl, HC2, HB⟩ := hrel
    have hlb := HLS.out
    have hgw := hgb.out.below HB.out
    have c2 : wr.cell? ⟨w.heap.size, 2, none⟩ = some (.slice la ls.length lcap) := (hgw.cell 2).trans rfl
    have hgl := hgw.lt
    by_cases hlt : k < ls.length
    · have hlt' : (k : Int) < (ls.length : Int) := by omega
      have hk0 : (0 : Int) ≤ (k : Int) := by omega
      have HLW := hid (fun W' (hB : Below W0.heap.size W0 W') => (HL0.out.below hB).at rfl k hlt)
      have HLK := hid (HLL.out k)
      have HTK := hid (take_memL hlt)
      have HMEM : Hid ((ls[k]?.getD []) ∈ ls) := by rw [List.getElem?_eq_getElem hlt]; exact List.getElem_mem hlt
      generalize ls[k]?.getD [] = l at *
      go_wp2_with fail
      clear c2 hgl hgw
      go_loopw [6] (fun i wr => ∃ j : Nat, j ≤ l.length ∧ i = .int .i64 j ∧ Hid ((l.take j).all (halfB (2 * (L : Int))) = true) ∧ Hid (Below W0.heap.size W0 wr)) (fun i _ => l.length - (intOf i).toNat)
      case atStart => exact ⟨0, Nat.zero_le _, rfl, rfl, HB⟩
      case round =>
        clear HB
        obtain ⟨j, hjn, rfl, HCj, HB⟩ := hrel
        obtain ⟨W5, rfl⟩ : ∃ W : World, W = wr := ⟨_, rfl⟩
        have hgw := hgb.out.below HB.out
        have c2 : W5.cell? ⟨w.heap.size, 2, none⟩ = some (.slice la ls.length lcap) := (hgw.cell 2).trans rfl
        have hgl := hgw.lt
        obtain ⟨b, off, lv, rfl, hb, ck, hir⟩ := HLW.out W5 HB.out
        obtain ⟨xa, xcap, rfl, hxc, hxm, hxx⟩ := hir.at
        have hxlen := HLK.out
        by_cases hjl : j < l.length
        · have hjl' : (j : Int) < (l.length : Int) := by omega
          have hj0 : (0 : Int) ≤ (j : Int) := by omega
          obtain ⟨b', off', rfl, hb', cj⟩ := hxx j hjl
          have HTJ : Hid (∀ c, halfB (2 * (L : Int)) (l[j]?.getD 0) = c → (l.take (j + 1)).all (halfB (2 * (L : Int))) = c) := fun c hc => by
            rw [(take_step l j hjl : l.take (j + 1) = l.take j ++ [l[j]?.getD 0]), List.all_append, HCj.out, ← hc]
            simp
          clear hxx hir
          generalize l[j]?.getD 0 = x at *
          have HBAD : Hid (halfB (2 * (L : Int)) x = false → Z = 2) := fun hwt => by
            have h := HZ.out
            have h2 : ls.all (fun l => l.all (halfB (2 * (L : Int)))) = false := by
              rw [List.all_eq_false]
              refine ⟨l, HMEM.out, ?_⟩
              have h3 := HTJ.out _ hwt
              have h4 : l.all (halfB (2 * (L : Int))) = ((l.take (j + 1)).all (halfB (2 * (L : Int))) && (l.drop (j + 1)).all (halfB (2 * (L : Int)))) := by rw [← List.all_append, List.take_append_drop]
              rw [h4, h3]; simp
            rw [if_pos h2] at h
            exact h
          by_cases h1 : x < 0
          · have HZ2 := hid (HBAD.out (by unfold halfB; simp; omega))
            go_wp2_with fail
            go_ret
            rw [HZ2.out]
            exact ⟨rfl, up HB0.out HB.out⟩
          by_cases h2 : 2 * (L : Int) ≤ x
          · have HZ2 := hid (HBAD.out (by unfold halfB; simp; omega))
            go_wp2_with fail
            go_ret
            rw [HZ2.out]
            exact ⟨rfl, up HB0.out HB.out⟩
          have HTJ2 := hid (HTJ.out true (by unfold halfB; simp; omega))
          clear HTJ HBAD
          go_wp2_with fail
          go_roundw
          case rel => exact ⟨j + 1, by omega, by go_num, HTJ2, HB⟩
          case measure => simp [intOf]; omega
        · obtain rfl : j = l.length := by omega
          have hjl' : ¬ (l.length : Int) < (l.length : Int) := by omega
          have HCl : Hid (l.all (halfB (2 * (L : Int))) = true) := by have h := HCj.out; rw [List.take_length] at h; exact h
          go_wp2_with fail
          go_roundw
          case rel =>
            refine ⟨k + 1, by omega, by go_num, fun l' hl' => ?_, HB⟩
            rcases HTK.out l' hl' with h | h
            · exact HC2.out l' h
            · rw [h]; exact HCl.out
          case measure => simp [intOf]; omega
    · obtain rfl : k = ls.length := by omega
      have hlt' : ¬ (ls.length : Int) < (ls.length : Int) := by omega
      have HZ2 : Hid (Z = 0) := by
        have h := HZ.out
        have h2 := HC2.out
        rw [List.take_length] at h2
        rw [if_neg (by rw [Bool.not_eq_false, List.all_eq_true]; exact h2)] at h
        exact h
      go_wp2_with fail
      go_ret
      rw [HZ2.out]
      exact ⟨rfl, up HB0.out HB.out⟩

/-! ## Ribbon -/
theorem joinT_snoc (sep : List UInt8) (x : List UInt8) : ∀ l : List (List UInt8), joinT sep (l ++ [x]) = joinT sep l ++ (if l = [] then [] else sep) ++ x
  | [] => by simp [joinT]
  | [y] => by simp [joinT]
  | y :: z :: r => by
    have ih := joinT_snoc sep x (z :: r)
    rw [if_neg (by simp)] at ih
    rw [if_neg (by simp)]
    show y ++ sep ++ joinT sep (z :: r ++ [x]) = y ++ sep ++ joinT sep (z :: r) ++ sep ++ x
    rw [ih]
    simp [List.append_assoc]
theorem joinT_take (sep : List UInt8) (l : List (List UInt8)) (k : Nat) (hk : k < l.length) : joinT sep (l.take (k + 1)) = joinT sep (l.take k) ++ (if k = 0 then [] else sep) ++ (l[k]?.getD []) := by
  have e : l.take (k + 1) = l.take k ++ [l[k]?.getD []] := by
    rw [List.take_add_one, List.getElem?_eq_getElem hk]
    rfl
  rw [e, joinT_snoc]
  by_cases h0 : k = 0
  · subst h0; rfl
  · rw [if_neg h0, if_neg (fun h => by rw [← List.length_eq_zero_iff, List.length_take] at h; omega)]
theorem joinT_mono (sep : List UInt8) (l : List (List UInt8)) : ∀ j k, k + j ≤ l.length → (joinT sep (l.take k)).length ≤ (joinT sep (l.take (k + j))).length
  | 0, k, _ => Nat.le_refl _
  | j + 1, k, h => by
    have h1 := joinT_mono sep l j k (by omega)
    have h2 := joinT_take sep l (k + j) (by omega)
    rw [show k + (j + 1) = k + j + 1 by omega, h2, List.length_append, List.length_append]
    omega
theorem str_sp (a b : List UInt8) : str a ++ (({ data := #[32] } : ByteArray) ++ str b) = str (a ++ 32 :: b) := by
  apply ByteArray.ext
  simp [str]
theorem str_sl (a : List UInt8) : str a ++ ({ data := #[32, 47] } : ByteArray) = str (a ++ [32, 47]) := by
  apply ByteArray.ext
  simp [str]
theorem str_rb (a : List UInt8) : ({ data := #[114, 105, 98, 98, 111, 110, 32] } : ByteArray) ++ str a ++ ({ data := #[32, 59] } : ByteArray) = str (wRibbon ++ 32 :: (a ++ [32, 59])) := by
  apply ByteArray.ext
  simp [str, wRibbon]
theorem halfB_all {L : Nat} (hL : L ≤ 7200) {l : List Int} (h : l.all (halfB (2 * (L : Int))) = true) (j : Nat) : 0 ≤ l[j]?.getD 0 ∧ l[j]?.getD 0 < 100000 := by
  by_cases hj : j < l.length
  · rw [List.getElem?_eq_getElem hj]
    have := List.all_eq_true.1 h _ (List.getElem_mem hj)
    unfold halfB at this
    simp at this ⊢
    omega
  · rw [List.getElem?_eq_none (by omega)]
    simp

set_option maxRecDepth 100000 in
set_option maxHeartbeats 8000000 in
theorem q_Ribbon (g : G) (ls : List (List Int)) (rv : Value) (w : World) (hr : RibR w rv (g, ls)) (hls : ls.length ≤ 10000) (hll : ∀ j : Nat, (ls[j]?.getD []).length ≤ 10000) :
    Calls Tryz.prog 21 #[rv] w fun e w' => e = .returned (limV (ribR g ls)) ∧ Below w.heap.size w w' := by
  obtain ⟨Z, HZ⟩ : ∃ Z, Hid (Z = ribR g ls) := ⟨_, rfl⟩
  rw [← HZ.out]
  have HLS := hid hls
  have HLL := hid hll
  have HR := hid hr
  obtain ⟨ev, lv, rfl, hE0, hL⟩ := hr
  have HE := hid hE0
  have HL := hid hL
  obtain ⟨ea, ecap, rfl, _⟩ := hE0
  obtain ⟨la, lcap, _, rfl, hcap, hcm, _⟩ := hL
  dsimp only at hcap hcm
  have hgb := hid (Blk.new w #[.int .i64 g.n, .slice ea g.es.length ecap, .slice la ls.length lcap] 40)
  have HB0 := hid ((Below.refl w.heap.size w).alloc (Nat.le_refl _) (.cells #[.int .i64 g.n, .slice ea g.es.length ecap, .slice la ls.length lcap] 40))
  have HG0 : Hid (GrR (w.alloc (.cells #[.int .i64 g.n, .slice ea g.es.length ecap, .slice la ls.length lcap] 40)) (.agg #[.int .i64 g.n, .slice ea g.es.length ecap]) g) := ⟨_, rfl, HE.out.below HB0.out⟩
  have HL0 := hid (HL.out.below HB0.out)
  have HR0 := hid (HR.out.below HB0.out)
  clear HE HL HR hls hll
  go_enter Tryz.func21, Tryz.ntmps21
  go_upto_region 1 with fail
  (try dsimp only)
  generalize w.alloc (.cells #[.int .i64 g.n, .slice ea g.es.length ecap, .slice la ls.length lcap] 40) = W0 at *
  have c0 : W0.cell? ⟨w.heap.size, 0, none⟩ = some (.int .i64 g.n) := (hgb.out.cell 0).trans rfl
  have c1 : W0.cell? ⟨w.heap.size, 1, none⟩ = some (.slice ea g.es.length ecap) := (hgb.out.cell 1).trans rfl
  have c2 : W0.cell? ⟨w.heap.size, 2, none⟩ = some (.slice la ls.length lcap) := (hgb.out.cell 2).trans rfl
  have hgl := hgb.out.lt
  go_wp2_with fail
  refine (q_Shaped g ls _ W0 HR0.out HLS.out HLL.out).mono ?_
  rintro e w1 ⟨rfl, hB1⟩
  have HB1 := hid hB1
  have hgb1 := hid (hgb.out.below hB1)
  have HG1 := hid (HG0.out.below hB1)
  clear c0 c1 c2 hgl hB1 HR0 HG0
  have hz := HZ.out
  rw [ribR_sh] at hz
  dsimp only
  by_cases hc : shErr g ls = 0
  case neg =>
    have HZ2 : Hid (Z = (shErr g ls, [])) := by show _ = _; rw [hz, if_pos hc]
    have hc1 : (shErr g ls != 0) = true := by simpa using hc
    clear HZ hc hz
    go_wp2_with fail
    refine bodyPost_ret (results_two rfl _ _ _) rfl ?_
    rw [HZ2.out]
    exact ⟨rfl, up HB0.out HB1.out⟩
  rw [if_neg (by omega)] at hz
  rw [hc]
  have hck : checkErr g = 0 := by
    unfold shErr at hc
    by_cases h : checkErr g = 0
    · exact h
    · rw [if_pos h] at hc; exact absurd hc h
  have hal : ∀ l ∈ ls, l.all (halfB (2 * ((endsOf g.es).length : Int))) = true := by
    unfold shErr at hc
    rw [if_neg (by omega)] at hc
    by_cases h2 : (ls.length : Int) ≠ g.n
    · rw [if_pos h2] at hc; simp at hc
    · rw [if_neg h2] at hc
      by_cases h3 : ls.all (fun l => l.all (halfB (2 * ((endsOf g.es).length : Int)))) = false
      · rw [if_pos h3] at hc; simp at hc
      · rw [Bool.not_eq_false, List.all_eq_true] at h3
        exact h3
  have hsb : (endsOf g.es).length ≤ 7200 := by have := Gok.sizeOf_bd hck; unfold Go.Proofs.YtemmepgfngkgmaaGreatDoor.sizeOf at this; omega
  have HAL := hid hal
  have HSB := hid hsb
  have htl : (tabT 45 g).length ≤ 2000 := by
    have h0 := Gok.n hck
    have h1 := itoa_low (n := g.n) (by omega) (by omega)
    have h2 := arcsT_len (sign := 45) (gok_low hck)
    have h3 := Gok.len hck
    unfold tabT
    simp
    omega
  have hed := hid (fun w hg => r9_edges g (.agg #[.int .i64 g.n, .slice ea g.es.length ecap]) w hg hck)
  obtain ⟨pre, hpre⟩ : ∃ pre, pre = wRibbon ++ 32 :: (tabT 45 g ++ [32, 59]) := ⟨_, rfl⟩
  have hz2 : Z = limR (pre ++ joinT [32, 47] (ls.map intsT)) := by
    rw [hz, hpre]
    simp
  have HZ := hid hz2
  have HPRE := hid hpre
  have hpl : pre.length ≤ 2010 := by rw [hpre]; simp [wRibbon]; omega
  have zt := str_size (tabT 45 g)
  have c0 : w1.cell? ⟨w.heap.size, 0, none⟩ = some (.int .i64 g.n) := (hgb1.out.cell 0).trans rfl
  have c1 : w1.cell? ⟨w.heap.size, 1, none⟩ = some (.slice ea g.es.length ecap) := (hgb1.out.cell 1).trans rfl
  have hgl := hgb1.out.lt
  have zr : (({ data := #[114, 105, 98, 98, 111, 110, 32] } : ByteArray)).size = 7 := rfl
  have z2 : (({ data := #[32, 59] } : ByteArray)).size = 2 := rfl
  generalize (endsOf g.es).length = L at *
  clear hc hck hal hz hz2 hpre hsb
  go_upto_region 4 with fail
  go_wp2_with fail
  refine (hed.out w1 HG1.out).mono ?_
  rintro e w2 ⟨rfl, hB2⟩
  have HB2 := hid (up HB1.out hB2)
  clear hB2 c0 c1 hgl hgb1 HG1 HB1 hed
  have hz1 := ByteArray.size_append (a := ({ data := #[114, 105, 98, 98, 111, 110, 32] } : ByteArray)) (b := str (tabT 45 g))
  dsimp only
  go_wp2_with fail
  rw [str_rb, ← HPRE.out]
  clear zt zr z2 htl hz1
  clear HPRE
  go_loopw [5, 6] (fun s i wr => ∃ (k : Nat) (acc : List UInt8), k ≤ ls.length ∧ i = .int .i64 k ∧ s = .string (str acc) ∧ acc.length ≤ 8192 ∧ Hid (acc = pre ++ joinT [32, 47] ((ls.map intsT).take k)) ∧ Hid (Below W0.heap.size W0 wr)) (fun _ i _ => ls.length - (intOf i).toNat)
  case atStart => exact ⟨0, pre, Nat.zero_le _, rfl, rfl, by omega, by show _ = _; simp [joinT], HB2⟩
  case round =>
    clear HB2
    obtain ⟨k, acc, hkn, rfl, rfl, hacc, HA, HB⟩ := hrel
    have hlb := HLS.out
    have hgw := hgb.out.below HB.out
    have c2 : wr.cell? ⟨w.heap.size, 2, none⟩ = some (.slice la ls.length lcap) := (hgw.cell 2).trans rfl
    have hgl := hgw.lt
    by_cases hlt : k < ls.length
    · have hlt' : (k : Int) < (ls.length : Int) := by omega
      have hk0 : (0 : Int) ≤ (k : Int) := by omega
      have HLW := hid (fun W' (hB : Below W0.heap.size W0 W') => (HL0.out.below hB).at rfl k hlt)
      have HLK := hid (HLL.out k)
      have HAK : Hid ((ls[k]?.getD []).all (halfB (2 * (L : Int))) = true) := by
        refine HAL.out _ ?_
        rw [List.getElem?_eq_getElem hlt]
        exact List.getElem_mem hlt
      have HJT : Hid (joinT [32, 47] ((ls.map intsT).take (k + 1)) = joinT [32, 47] ((ls.map intsT).take k) ++ (if k = 0 then [] else [32, 47]) ++ intsT (ls[k]?.getD [])) := by
        have h := joinT_take [32, 47] (ls.map intsT) k (by rw [List.length_map]; exact hlt)
        show _ = _
        rw [h, List.getElem?_map, List.getElem?_eq_getElem hlt]
        rfl
      have HMN := hid (joinT_mono [32, 47] (ls.map intsT) (ls.length - (k + 1)) (k + 1) (by rw [List.length_map]; omega))
      have HKL : Hid ((ls.map intsT).take (k + 1 + (ls.length - (k + 1))) = ls.map intsT) := by
        show _ = _
        rw [show k + 1 + (ls.length - (k + 1)) = ls.length by omega]
        exact List.take_of_length_le (by rw [List.length_map]; exact Nat.le_refl _)
      generalize ls[k]?.getD [] = l at *
      have hac0 := str_size acc
      obtain ⟨acc1, hacc1⟩ : ∃ acc1, acc1 = acc ++ (if k = 0 then [] else [32, 47]) := ⟨_, rfl⟩
      have HA1 := hid hacc1
      have hal1 : acc1.length ≤ 8194 := by
        rw [hacc1, List.length_append]
        split <;> simp <;> omega
      have HRND : ∀ W1 : World, Hid (Below W0.heap.size W0 W1) → True := fun _ _ => trivial
      clear HRND
      by_cases hk00 : k = 0
      case pos =>
        have hkz : ¬ (0 : Int) < (k : Int) := by omega
        have HE1 : Hid (acc1 = acc) := by show _ = _; rw [HA1.out, if_pos hk00]; simp
        clear hk00 hacc1
        go_wp2_with fail
        skip
        rw [← HE1.out]
        clear c2 hgl hgw
        go_loopw [5, 7] (fun s i wr => ∃ (j : Nat) (ac : List UInt8), j ≤ l.length ∧ i = .int .i64 j ∧ s = .string (str ac) ∧ ac.length ≤ 8194 + 6 * j ∧ Hid (ac = acc1 ++ intsT (l.take j)) ∧ Hid (Below W0.heap.size W0 wr)) (fun _ i _ => l.length - (intOf i).toNat)
        case atStart => exact ⟨0, acc1, Nat.zero_le _, rfl, rfl, by omega, by show _ = _; simp [intsT], HB⟩
        case round =>
          clear HB
          obtain ⟨j, ac, hjn, rfl, rfl, hac, HCj, HB⟩ := hrel
          obtain ⟨W5, rfl⟩ : ∃ W : World, W = wr := ⟨_, rfl⟩
          have hgw := hgb.out.below HB.out
          have c2 : W5.cell? ⟨w.heap.size, 2, none⟩ = some (.slice la ls.length lcap) := (hgw.cell 2).trans rfl
          have hgl := hgw.lt
          obtain ⟨b, off, lv, rfl, hb, ck, hir⟩ := HLW.out W5 HB.out
          obtain ⟨xa, xcap, rfl, hxc, hxm, hxx⟩ := hir.at
          have hxlen := HLK.out
          by_cases hjl : j < l.length
          · have hjl' : (j : Int) < (l.length : Int) := by omega
            have hj0 : (0 : Int) ≤ (j : Int) := by omega
            obtain ⟨b', off', rfl, hb', cj⟩ := hxx j hjl
            have hx := halfB_all HSB.out HAK.out j
            have HSJ := hid (intsT_snoc l j hjl)
            clear hxx hir
            generalize l[j]?.getD 0 = x at *
            have h5 := itoa_half hx.1 hx.2
            have hdg := hid (fun w => r_dig x (by omega) (by omega) w)
            have zx := str_size (Lib.itoa x)
            have za := str_size ac
            have zs : (({ data := #[32] } : ByteArray)).size = 1 := rfl
            have zz := ByteArray.size_append (a := ({ data := #[32] } : ByteArray)) (b := str (Lib.itoa x))
            go_wp2_with fail
            refine (hdg.out _).mono ?_
            rintro e w6 ⟨rfl, rfl⟩
            dsimp only
            go_wp2_with fail
            go_roundw
            case rel =>
              refine ⟨j + 1, ac ++ 32 :: Lib.itoa x, by omega, by go_num, by rw [str_sp], ?_, ?_, HB⟩
              · rw [List.length_append, List.length_cons]; omega
              · show _ = _
                rw [HCj.out, HSJ.out, List.append_assoc]
            case measure => simp [intOf]; omega
          · obtain rfl : j = l.length := by omega
            have hjl' : ¬ (l.length : Int) < (l.length : Int) := by omega
            have za := str_size ac
            have HAC : Hid (ac = pre ++ joinT [32, 47] ((ls.map intsT).take (k + 1))) := by
              have h := HCj.out
              rw [List.take_length] at h
              show _ = _
              rw [h, HA1.out, HA.out, HJT.out]
              simp [List.append_assoc]
            by_cases hbig : 8192 < ac.length
            · have hbig' : (8192 : Int) < ((str ac).size : Int) := by omega
              have HZ2 : Hid (Z = (19, [])) := by
                show _ = _
                rw [HZ.out]
                unfold limR
                rw [if_pos]
                have h1 := HMN.out
                rw [HKL.out] at h1
                have h2 := congrArg List.length HAC.out
                rw [List.length_append] at h2 ⊢
                omega
              go_wp2_with fail
              refine bodyPost_ret (results_two rfl _ _ _) rfl ?_
              rw [HZ2.out]
              exact ⟨rfl, up HB0.out HB.out⟩
            · have hbig' : ¬ (8192 : Int) < ((str ac).size : Int) := by omega
              go_wp2_with fail
              go_roundw
              case rel => exact ⟨k + 1, ac, by omega, by go_num, rfl, by omega, HAC, HB⟩
              case measure => simp [intOf]; omega
      case neg =>
        have hkz : (0 : Int) < (k : Int) := by omega
        have HE1 : Hid (acc1 = acc ++ [32, 47]) := by show _ = _; rw [HA1.out, if_neg hk00]
        have zsl : (({ data := #[32, 47] } : ByteArray)).size = 2 := rfl
        clear hk00 hacc1
        go_wp2_with fail
        rw [str_sl]
        rw [← HE1.out]
        clear c2 hgl hgw
        go_loopw [5, 7] (fun s i wr => ∃ (j : Nat) (ac : List UInt8), j ≤ l.length ∧ i = .int .i64 j ∧ s = .string (str ac) ∧ ac.length ≤ 8194 + 6 * j ∧ Hid (ac = acc1 ++ intsT (l.take j)) ∧ Hid (Below W0.heap.size W0 wr)) (fun _ i _ => l.length - (intOf i).toNat)
        case atStart => exact ⟨0, acc1, Nat.zero_le _, rfl, rfl, by omega, by show _ = _; simp [intsT], HB⟩
        case round =>
          clear HB
          obtain ⟨j, ac, hjn, rfl, rfl, hac, HCj, HB⟩ := hrel
          obtain ⟨W5, rfl⟩ : ∃ W : World, W = wr := ⟨_, rfl⟩
          have hgw := hgb.out.below HB.out
          have c2 : W5.cell? ⟨w.heap.size, 2, none⟩ = some (.slice la ls.length lcap) := (hgw.cell 2).trans rfl
          have hgl := hgw.lt
          obtain ⟨b, off, lv, rfl, hb, ck, hir⟩ := HLW.out W5 HB.out
          obtain ⟨xa, xcap, rfl, hxc, hxm, hxx⟩ := hir.at
          have hxlen := HLK.out
          by_cases hjl : j < l.length
          · have hjl' : (j : Int) < (l.length : Int) := by omega
            have hj0 : (0 : Int) ≤ (j : Int) := by omega
            obtain ⟨b', off', rfl, hb', cj⟩ := hxx j hjl
            have hx := halfB_all HSB.out HAK.out j
            have HSJ := hid (intsT_snoc l j hjl)
            clear hxx hir
            generalize l[j]?.getD 0 = x at *
            have h5 := itoa_half hx.1 hx.2
            have hdg := hid (fun w => r_dig x (by omega) (by omega) w)
            have zx := str_size (Lib.itoa x)
            have za := str_size ac
            have zs : (({ data := #[32] } : ByteArray)).size = 1 := rfl
            have zz := ByteArray.size_append (a := ({ data := #[32] } : ByteArray)) (b := str (Lib.itoa x))
            go_wp2_with fail
            refine (hdg.out _).mono ?_
            rintro e w6 ⟨rfl, rfl⟩
            dsimp only
            go_wp2_with fail
            go_roundw
            case rel =>
              refine ⟨j + 1, ac ++ 32 :: Lib.itoa x, by omega, by go_num, by rw [str_sp], ?_, ?_, HB⟩
              · rw [List.length_append, List.length_cons]; omega
              · show _ = _
                rw [HCj.out, HSJ.out, List.append_assoc]
            case measure => simp [intOf]; omega
          · obtain rfl : j = l.length := by omega
            have hjl' : ¬ (l.length : Int) < (l.length : Int) := by omega
            have za := str_size ac
            have HAC : Hid (ac = pre ++ joinT [32, 47] ((ls.map intsT).take (k + 1))) := by
              have h := HCj.out
              rw [List.take_length] at h
              show _ = _
              rw [h, HA1.out, HA.out, HJT.out]
              simp [List.append_assoc]
            by_cases hbig : 8192 < ac.length
            · have hbig' : (8192 : Int) < ((str ac).size : Int) := by omega
              have HZ2 : Hid (Z = (19, [])) := by
                show _ = _
                rw [HZ.out]
                unfold limR
                rw [if_pos]
                have h1 := HMN.out
                rw [HKL.out] at h1
                have h2 := congrArg List.length HAC.out
                rw [List.length_append] at h2 ⊢
                omega
              go_wp2_with fail
              refine bodyPost_ret (results_two rfl _ _ _) rfl ?_
              rw [HZ2.out]
              exact ⟨rfl, up HB0.out HB.out⟩
            · have hbig' : ¬ (8192 : Int) < ((str ac).size : Int) := by omega
              go_wp2_with fail
              go_roundw
              case rel => exact ⟨k + 1, ac, by omega, by go_num, rfl, by omega, HAC, HB⟩
              case measure => simp [intOf]; omega
    · obtain rfl : k = ls.length := by omega
      have hlt' : ¬ (ls.length : Int) < (ls.length : Int) := by omega
      have HZ2 : Hid (Z = limR acc) := by
        show _ = _
        have h := HA.out
        rw [show ls.length = (ls.map intsT).length by rw [List.length_map], List.take_length] at h
        rw [HZ.out, h]
      have HLM := hid (fun w => r9_limited acc w)
      rw [← HZ2.out] at HLM
      obtain ⟨z1, z2⟩ := Z
      unfold limV at HLM
      dsimp only at HLM
      go_wp2_with fail
      refine (HLM.out _).mono ?_
      rintro e w3 ⟨rfl, rfl⟩
      dsimp only
      go_wp2_with fail
      refine bodyPost_ret (results_two rfl _ _ _) rfl ?_
      exact ⟨rfl, up HB0.out HB.out⟩

end Go.Proofs.YtemmepgfngkgmaaGreatDoor
