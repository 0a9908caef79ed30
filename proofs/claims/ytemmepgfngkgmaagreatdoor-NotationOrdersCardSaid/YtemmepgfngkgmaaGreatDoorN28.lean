/-
  Contract of the notation: Ribbon. The law's examples: awake.
-/
import Derived.Test.YtemmepgfngkgmaaGreatDoorN25
namespace Go.Proofs.YtemmepgfngkgmaaGreatDoor
open Go.RowKit
set_option linter.unusedVariables false
set_option linter.unusedSimpArgs false

/-- The text of a ribbon graph, or the error. -/
def ribR (g : G) (ls : List (List Int)) : Int × List UInt8 :=
  if checkErr g ≠ 0 then (checkErr g, []) else if (ls.length : Int) ≠ g.n then (8, []) else if ls.all (fun l => l.all (halfB (2 * ((endsOf g.es).length : Int)))) = false then (2, [])
  else limR (wRibbon ++ 32 :: (tabT 45 g ++ 32 :: 59 :: joinT [32, 47] (ls.map intsT)))
theorem itoa_half {n : Int} (h0 : 0 ≤ n) (h1 : n < 100000) : (Lib.itoa n).length ≤ 5 := by
  obtain ⟨i, rfl⟩ : ∃ i : Nat, n = i := ⟨n.toNat, by omega⟩
  rw [itoa_small, Lib.decDigits_length]
  exact nDig_le 5 i (by omega) (by decide)
theorem intsT_len {l : List Int} : (∀ x ∈ l, (Lib.itoa x).length ≤ 5) → (intsT l).length ≤ 6 * l.length := by
  induction l with
  | nil => intro _; simp [intsT]
  | cons x l ih =>
    intro h
    have h1 := h x (by simp)
    have h2 := ih (fun y hy => h y (by simp [hy]))
    unfold intsT at *
    rw [List.flatMap_cons, List.length_append, List.length_cons, List.length_cons]
    omega
theorem joinT_len (sep : List UInt8) (c : Nat) : ∀ l : List (List UInt8), (∀ x ∈ l, x.length ≤ c) → (joinT sep l).length ≤ l.length * (c + sep.length)
  | [], _ => by simp [joinT]
  | [x], h => by have := h x (by simp); simp [joinT]; omega
  | x :: y :: r, h => by
    have h1 := h x (by simp)
    have h2 := joinT_len sep c (y :: r) (fun z hz => h z (by simp at hz ⊢; rcases hz with hz | hz <;> simp [hz]))
    have e : (x :: y :: r).length = (y :: r).length + 1 := rfl
    rw [joinT, List.length_append, List.length_append, e, Nat.add_mul]
    omega
theorem str_add2 (a : List UInt8) : str a ++ ({ data := #[32, 59] } : ByteArray) = str (a ++ [32, 59]) := by
  apply ByteArray.ext
  simp [str]
theorem grownB {W w : World} {b : Nat} (h : Below b W w) (hs : W.heap.size = b + 1) : W.grownBy w (some b) :=
  ⟨h.os, h.tape, h.output, h.size, fun k hk hne => h.block k (by simp at hne; omega)⟩
theorem arcsT_len {sign : UInt8} {es : List E} : (∀ x ∈ es, lowE x) → (arcsT sign es).length ≤ 9 * es.length := by
  induction es with
  | nil => intro _; simp [arcsT]
  | cons x es ih =>
    intro h
    have h1 := arcT_low sign (h x (by simp))
    have h2 := ih (fun y hy => h y (by simp [hy]))
    unfold arcsT at *
    rw [List.flatMap_cons, List.length_append, List.length_cons]
    omega
theorem und_strs : Tryz.prog.underlying 114 = some (.slice 9) := by kernel_rfl
theorem info_str : (Tryz.prog.info? 9).map (fun i => (i.zero, i.size, i.bytes)) = some (some (.string ⟨#[]⟩), 1, 16) := by kernel_rfl

set_option maxRecDepth 100000 in
set_option maxHeartbeats 8000000 in
theorem n_Ribbon (g : G) (ls : List (List Int)) (rv : Value) (w : World) (hE : Env w) (hr : RibR w rv (g, ls)) (hls : ls.length ≤ 10000) (hll : ∀ j : Nat, (ls[j]?.getD []).length ≤ 10000) :
    Calls Tryz.prog 20 #[rv] w fun e w' => e = .returned (limV (ribR g ls)) ∧ Below w.heap.size w w' := by
  obtain ⟨i0, hi0, hz0, hz1, hz2⟩ := info_parts info_str
  obtain ⟨Z, HZ⟩ : ∃ Z, Hid (Z = ribR g ls) := ⟨_, rfl⟩
  rw [← HZ.out]
  have HR := hid hr
  have HLS := hid hls
  have HLL := hid hll
  obtain ⟨ev, lv, rfl, hE0, hL⟩ := hr
  obtain ⟨ea, ecap, rfl, _⟩ := hE0
  obtain ⟨la, lcap, _, rfl, hcap, hcm, _⟩ := hL
  dsimp only at hcap hcm
  have hgb := hid (Blk.new w #[.int .i64 g.n, .slice ea g.es.length ecap, .slice la ls.length lcap] 40)
  have HB0 := hid ((Below.refl w.heap.size w).alloc (Nat.le_refl _) (.cells #[.int .i64 g.n, .slice ea g.es.length ecap, .slice la ls.length lcap] 40))
  have HR0 := hid (HR.out.below HB0.out)
  have HE0 := hid (hE.below HB0.out)
  clear HR hE hls hll
  go_enter Tryz.func20, Tryz.ntmps20
  go_upto_region 1 with fail
  (try dsimp only)
  generalize hW0 : w.alloc (.cells #[.int .i64 g.n, .slice ea g.es.length ecap, .slice la ls.length lcap] 40) = W0 at *
  clear hW0
  have c0 : W0.cell? ⟨w.heap.size, 0, none⟩ = some (.int .i64 g.n) := (hgb.out.cell 0).trans rfl
  have c1 : W0.cell? ⟨w.heap.size, 1, none⟩ = some (.slice ea g.es.length ecap) := (hgb.out.cell 1).trans rfl
  have c2 : W0.cell? ⟨w.heap.size, 2, none⟩ = some (.slice la ls.length lcap) := (hgb.out.cell 2).trans rfl
  have hgl := hgb.out.lt
  obtain ⟨HG0, HL0⟩ : Hid (GrR W0 (.agg #[.int .i64 g.n, .slice ea g.es.length ecap]) g) ∧ Hid (LsR W0 (.slice la ls.length lcap) ls) := by
    obtain ⟨ev', lv', e, h1, h2⟩ := HR0.out
    injection e with e
    simp at e
    obtain ⟨rfl, rfl⟩ := e
    exact ⟨⟨_, rfl, h1⟩, h2⟩
  have HSV := hid (show sizeV g = .tuple #[.int .i64 (if checkErr g = 0 then ((endsOf g.es).length : Int) else 0), .int .i64 (checkErr g)] from rfl)
  have HPS := hid (p_Size g _ W0 HG0.out)
  rw [HSV.out] at HPS
  have hz := HZ.out
  unfold ribR at hz
  by_cases hc : checkErr g = 0
  · rw [if_neg (by rw [hc]; simp)] at hz
    have HZ := hid hz
    rw [if_pos hc, hc] at HPS
    have HSB : Hid ((endsOf g.es).length ≤ 7200) := by
      have h1 := endsOf_len g.es 50 (fun y hy => by have := Gok.mem hc hy; omega)
      have := Gok.len hc
      show _ ≤ _
      omega
    have HLOW := hid (gok_low hc)
    have HGN := hid (Gok.n hc)
    have HGL := hid (Gok.len hc)
    clear hz hc
    go_wp2_with fail
    refine HPS.out.mono ?_
    rintro e w1 ⟨rfl, hB1⟩
    have HB1 := hid hB1
    have c0 := (hgb.out.below HB1.out).cell 0
    have c2 := (hgb.out.below HB1.out).cell 2
    simp only [List.getElem?_toArray, List.getElem?_cons_zero, List.getElem?_cons_succ] at c0 c2
    have hgl1 := (hgb.out.below HB1.out).lt
    have HS1 := hid hB1.size
    clear hB1 HPS
    generalize hL : (endsOf g.es).length = L at *
    have hLb : L ≤ 7200 := HSB.out
    have wl : IntKind.i64.wrap (2 * (L : Int)) = 2 * (L : Int) := IntWalk.i64_in _ (by omega)
    have wl1 : IntKind.i64.wrap (2 * (L : Int) - 1) = 2 * (L : Int) - 1 := IntWalk.i64_in _ (by omega)
    dsimp only
    by_cases hn : (ls.length : Int) = g.n
    · have hz := HZ.out
      rw [if_neg (by simpa using hn)] at hz
      have HZ := hid hz
      have HN := hid hn
      have hn2 : ((ls.length : Int) != g.n) = false := by simpa using hn
      clear hz hn
      go_wp2_with fail
      go_loopw [6, 31] (fun v i wr => ∃ k : Nat, k ≤ ls.length ∧ i = .int .i64 k ∧ Hid (wr.ownsRow W0.heap.size 9 1 v k ((ls.take k).map fun l => .string (str (intsT l)))) ∧ Hid (∀ l ∈ ls.take k, l.all (halfB (2 * (L : Int))) = true) ∧ Hid (Below W0.heap.size W0 wr))
        (fun _ i _ => ls.length - (intOf i).toNat)
      case atStart => exact ⟨0, Nat.zero_le _, rfl, World.ownsRow_nil _ _ _ _, (fun l hl => by simp at hl), HB1.out⟩
      case round =>
        obtain ⟨k, hkn, rfl, HO, HC, HB⟩ := hrel
        have hs := HB.out.size
        have hlb := HLS.out
        by_cases hlt : k < ls.length
        · have hlt' : (k : Int) < (ls.length : Int) := by omega
          have hk0 : (0 : Int) ≤ (k : Int) := by omega
          obtain ⟨a', cap', vs, ea', _, _, _, hcs, hvl, hrow⟩ := HL0.out.below HB.out
          injection ea' with ea1 _ ea3
          subst ea1 ea3
          have hrk := hrow k hlt
          obtain ⟨b, off, rfl, hb, hcs⟩ : ∃ b off, la = some ⟨b, off, none⟩ ∧ b < wr.heap.size ∧ ∀ i, i < vs.length → wr.cell? ⟨b, off + i, none⟩ = vs[i]? := by
            rcases hcs with h | h
            · rw [h] at hvl; simp at hvl; omega
            · exact h
          have ck : wr.cell? ⟨b, off + k, none⟩ = some (vs[k]?.getD undef) := by
            rw [hcs k (by omega), List.getElem?_eq_getElem (by omega)]; rfl
          have HLK := hid (HLL.out k)
          have HTK : Hid (∀ l ∈ ls.take (k + 1), l ∈ ls.take k ∨ l = ls[k]?.getD []) := fun l hl => by
            have e : ls.take (k + 1) = ls.take k ++ [ls[k]?.getD []] := take_step ls k hlt
            rw [e] at hl
            simpa using hl
          have HSN : Hid ((ls.take (k + 1)).map (fun l => Value.string (str (intsT l))) = (ls.take k).map (fun l => Value.string (str (intsT l))) ++ [Value.string (str (intsT (ls[k]?.getD [])))]) := by
            show _ = _
            have e : ls.take (k + 1) = ls.take k ++ [ls[k]?.getD []] := take_step ls k hlt
            rw [e]
            simp
          have HMEM : Hid ((ls[k]?.getD []) ∈ ls) := by rw [List.getElem?_eq_getElem hlt]; exact List.getElem_mem hlt
          generalize ls[k]?.getD [] = l at *
          generalize vs[k]?.getD undef = lv at *
          have HIR := hid hrk
          obtain ⟨xa, xcap, rfl, hxc, hxm, _⟩ := hrk
          clear hcs hrow hvl
          go_upto_region 11 with fail
          have HBD := hid (Bld.fresh wr)
          have HB2 := hid (HB.out.alloc hs (.cells #[.pointer none, .slice none 0 0] 118))
          have HO2 := hid (HO.out.alloc (.cells #[.pointer none, .slice none 0 0] 118))
          have HIR2 := hid (HIR.out.below ((Below.refl _ _).alloc (Nat.le_refl _) (.cells #[.pointer none, .slice none 0 0] 118)))
          have hw2s : (wr.alloc (.cells #[.pointer none, .slice none 0 0] 118)).heap.size = wr.heap.size + 1 := World.size_alloc _ _
          generalize hbb : wr.heap.size = bb at *
          generalize wr.alloc (.cells #[.pointer none, .slice none 0 0] 118) = W2 at *
          have HWB : Hid (W0.heap.size ≤ bb) := hs
          have HW2S : Hid (W2.heap.size = bb + 1) := hw2s
          have HUB : Hid (∀ k, u6.ownBlock = some k → k < bb) := fun k hk => by have := (HO.out.lt k hk).2; omega
          have HIRb : Hid (∀ k, k < l.length → ∃ b off, xa = some ⟨b, off, none⟩ ∧ b < bb ∧ W2.cell? ⟨b, off + k, none⟩ = some (.int .i64 (l[k]?.getD 0))) := by
            intro j hj
            obtain ⟨a', cap', e1, _, _, _, hcx⟩ := HIR.out
            injection e1 with e1 _ _
            subst e1
            obtain ⟨b', off', e2, hb', hcx⟩ := hcx.int (by omega)
            obtain ⟨a2, cap2, e3, _, _, _, hcy⟩ := HIR2.out
            injection e3 with e3 _ _
            subst e3
            obtain ⟨b2, off2, e4, hb2, hcy⟩ := hcy.int (by omega)
            rw [e2] at e4
            simp at e4
            obtain ⟨rfl, rfl⟩ := e4
            exact ⟨b', off', e2, by omega, hcy j hj⟩
          clear ck hb HB HO HIR HIR2 hbb
          go_wp2_with fail
          go_loopw [37] (fun i wr => ∃ j : Nat, j ≤ l.length ∧ i = .int .i64 j ∧ Hid (Bld bb bb (intsT (l.take j)) wr) ∧ (intsT (l.take j)).length ≤ 6 * j ∧ Hid ((l.take j).all (halfB (2 * (L : Int))) = true) ∧ Hid (Below bb W2 wr)) (fun i _ => l.length - (intOf i).toNat)
          case atStart => exact ⟨0, Nat.zero_le _, rfl, HBD, by simp [intsT], rfl, Below.refl _ _⟩
          case round =>
            obtain ⟨j, hjn, rfl, HBDj, hal, HCj, HBj⟩ := hrel
            obtain ⟨W5, rfl⟩ : ∃ W : World, W = wr := ⟨_, rfl⟩
            have hxlen := HLK.out
            by_cases hjl : j < l.length
            · have hjl' : (j : Int) < (l.length : Int) := by omega
              have hj0 : (0 : Int) ≤ (j : Int) := by omega
              obtain ⟨b', off', rfl, hb', cj⟩ := HIRb.out j hjl
              have cj := (HBj.out.cell (p := ⟨b', off' + j, none⟩) hb').trans cj
              have HSJ := hid (intsT_snoc l j hjl)
              have HTJ : Hid (∀ c, halfB (2 * (L : Int)) (l[j]?.getD 0) = c → (l.take (j + 1)).all (halfB (2 * (L : Int))) = c) := fun c hc => by
                rw [(take_step l j hjl : l.take (j + 1) = l.take j ++ [l[j]?.getD 0]), List.all_append, HCj.out, ← hc]
                simp
              generalize l[j]?.getD 0 = x at *
              go_wp2_with fail
              refine (n_within x 0 (2 * (L : Int) - 1) _).mono ?_
              rintro e w5 ⟨rfl, hw5⟩
              subst hw5
              have HWT : Hid (witB x 0 (2 * (L : Int) - 1) = halfB (2 * (L : Int)) x) := by
                show _ = _
                unfold witB halfB
                congr 1
                by_cases hx : x ≤ 2 * (L : Int) - 1 <;> simp [hx] <;> omega
              rw [HWT.out]
              cases hwt : halfB (2 * (L : Int)) x with
              | false =>
                have HZ2 : Hid (Z = (2, [])) := by
                  have h := HZ.out
                  have h2 : ls.all (fun l => l.all (halfB (2 * (L : Int)))) = false := by
                    rw [List.all_eq_false]
                    refine ⟨l, HMEM.out, ?_⟩
                    have h3 := HTJ.out _ hwt
                    have h4 : l.all (halfB (2 * (L : Int))) = ((l.take (j + 1)).all (halfB (2 * (L : Int))) && (l.drop (j + 1)).all (halfB (2 * (L : Int)))) := by rw [← List.all_append, List.take_append_drop]
                    rw [h4, h3]; simp
                  rw [if_pos h2] at h
                  exact h
                dsimp only
                go_wp2_with fail
                refine bodyPost_ret (results_two rfl _ _ _) rfl ?_
                rw [HZ2.out]
                exact ⟨rfl, HB0.out.trans ((HB2.out.trans (HBj.out.mono HWB.out)).mono (HB0.out.size))⟩
              | true =>
                have HTJ2 := hid (HTJ.out _ hwt)
                have hx : 0 ≤ x ∧ x < 2 * (L : Int) := by unfold halfB at hwt; simpa using hwt
                have h5 := itoa_half hx.1 (show x < 100000 by omega)
                have HEj := hid (HE0.out.below (HB2.out.trans (HBj.out.mono HWB.out)))
                clear HTJ hwt
                dsimp only
                go_wp2_with fail
                refine (c_Itoa x (by omega) (by omega) _ HEj.out).mono ?_
                rintro e w6 ⟨rfl, hB6⟩
                have HBD6 := hid (HBDj.out.below hB6)
                have HB6 := hid (HBj.out.trans (hB6.mono HBDj.out.2))
                have z1 := str_size (Lib.itoa x)
                clear hB6 HBDj HBj HEj cj hb'
                dsimp only
                go_wp2_with fail
                rw [str2b]
                refine (c_WriteString bb bb _ (32 :: Lib.itoa x) w6 HBD6.out (by omega) (by simp; omega)).mono ?_
                rintro e w7 ⟨rv7, rfl, hbd, hbw, _⟩
                have HBD7 := hid hbd
                have HB7 := hid (HB6.out.trans hbw)
                clear hbd hbw HB6 HBD6
                dsimp only
                go_wp2_with fail
                go_roundw
                case rel =>
                  refine ⟨j + 1, by omega, by go_num, ?_, ?_, HTJ2, HB7⟩
                  · rw [HSJ.out]; exact HBD7
                  · rw [HSJ.out, List.length_append, List.length_cons]; omega
                case measure => simp [intOf]; omega
            · obtain rfl : j = l.length := by omega
              rw [List.take_length] at *
              have hjl' : ¬ (l.length : Int) < (l.length : Int) := by omega
              go_wp2_with fail
              refine (c_String bb bb (intsT l) _ HBDj.out).mono ?_
              rintro e w7 ⟨rfl, hB7⟩
              have HB7 := hid (HBj.out.trans hB7)
              have HO7 := hid (kept_row HO2.out (grownB HB7.out HW2S.out) (fun k hk e => by have := HUB.out k hk; simp at e; omega))
              have HB9 : Hid (Below W0.heap.size W0 w7) := HB2.out.trans (HB7.out.mono HWB.out)
              have hbs : W0.heap.size ≤ w7.heap.size := HB9.out.size
              have HCl : Hid (l.all (halfB (2 * (L : Int))) = true) := HCj.out
              clear HBDj HCj HBj HB7 HO2 HB2 HBD hjl' hjl
              dsimp only
              go_wp2_with (at_builtin; go_must (refine wpList_append_own _ rfl _ _ 114 rfl W0.heap.size 9 i0 (.string ⟨#[]⟩) 1 16 und_strs hi0 hz0 hz1 hz2 rfl (by decide) _ k _ rfl (HO7.out.alloc _) ⟨w7.heap.size, 0, none⟩ 1 1 [.string (str (intsT l))] rfl rfl (cell_one_new _ _ _) (by simp [Value.oneCell']) (by unfold maxLen; omega) (by omega) (by simp; omega) ?_; intro v' w9 hown9 hgr9 _; have HO9 := hid hown9; have HG9 := hid ((Below.toGrown ((Below.refl _ w7).alloc (Nat.le_refl _) (.cells #[.string (str (intsT l))] 9)) _).trans hgr9); clear hown9 hgr9))
              go_roundw
              case rel =>
                refine ⟨k + 1, by omega, by go_num, ?_, ?_, ?_⟩
                · show World.ownsRow _ _ _ _ _ _ _
                  rw [HSN.out]
                  exact HO9.out
                · intro l' hl'
                  rcases HTK.out l' hl' with h | h
                  · exact HC.out l' h
                  · rw [h]; exact HCl.out
                · exact HB9.out.grown HG9.out hbs (fun q hq => (HO7.out.lt q hq).1)
              case measure => simp [intOf]; omega
        · obtain rfl : k = ls.length := by omega
          rw [List.take_length] at HO HC
          have hlt' : ¬ (ls.length : Int) < (ls.length : Int) := by omega
          obtain ⟨W9, rfl⟩ : ∃ W : World, W = wr := ⟨_, rfl⟩
          have HZ2 : Hid (Z = limR (wRibbon ++ 32 :: (Lib.itoa g.n ++ 58 :: arcsT 45 g.es) ++ 32 :: 59 :: joinT [32, 47] (ls.map intsT))) := by
            have h := HZ.out
            have h2 : ¬ (ls.all (fun l => l.all (halfB (2 * (L : Int)))) = false) := by
              rw [Bool.not_eq_false, List.all_eq_true]
              exact HC.out
            rw [if_neg h2] at h
            show _ = _
            rw [h]
            simp [tabT]
          have hcl : Hid (∀ W', Below W9.heap.size W9 W' → W'.cell? ⟨w.heap.size, 0, none⟩ = some (.int .i64 g.n) ∧ W'.cell? ⟨w.heap.size, 1, none⟩ = some (.slice ea g.es.length ecap) ∧ w.heap.size < W'.heap.size) := fun W' hB =>
            have hb := (hgb.out.below HB.out).below hB
            ⟨(hb.cell 0).trans rfl, (hb.cell 1).trans rfl, hb.lt⟩
          have HG9 := hid (HG0.out.below HB.out)
          have HW := hid (fun (v : Value) (w : World) (hL : LinesR w v g.es) => n_written wRibbon 45 111 g.n g.es v w (by have := HGN.out; omega) (by have := HGN.out; omega) HLOW.out (by have := HGL.out; omega) (by decide) hL)
          have htx : (wRibbon ++ 32 :: (Lib.itoa g.n ++ 58 :: arcsT 45 g.es)).length ≤ 2000 := by
            have h1 := itoa_low (n := g.n) (by have := HGN.out; omega) (by have := HGN.out; omega)
            have h2 := arcsT_len (sign := 45) HLOW.out
            have h3 := HGL.out
            simp [wRibbon]
            omega
          have hjl : (joinT [32, 47] (ls.map intsT)).length ≤ 1000000000 := by
            refine Nat.le_trans (joinT_len [32, 47] 60000 (ls.map intsT) ?_) ?_
            · intro x hx
              obtain ⟨l, hl, rfl⟩ := List.mem_map.1 hx
              have h1 := HC.out l hl
              obtain ⟨j, hj, rfl⟩ := List.getElem_of_mem hl
              have h2 := HLL.out j
              rw [List.getElem?_eq_getElem hj] at h2
              have h3 := intsT_len (l := ls[j]) (fun y hy => by
                have h4 := List.all_eq_true.1 h1 y hy
                unfold halfB at h4
                simp at h4
                exact itoa_half h4.1 (by omega))
              have h2 : ls[j].length ≤ 10000 := h2
              omega
            · rw [List.length_map]
              have : ls.length * (60000 + [32, (47 : UInt8)].length) ≤ 10000 * (60000 + 2) := Nat.mul_le_mul_right _ hlb
              omega
          obtain ⟨sa, scap, rfl, hsc, hsm, hss⟩ := owns_at HO.out
          have HJN : Hid (∀ W', Below W9.heap.size W9 W' → Calls Tryz.prog 61 #[.slice sa ls.length scap, .string (str [32, 47])] W' fun e w' => e = .returned (.string (str (joinT [32, 47] (ls.map intsT)))) ∧ Below W'.heap.size W' w') := by
            intro W' hB
            have h := c_Join sa scap (ls.map intsT) [32, 47] W' (by rw [List.length_map]; exact hsc) (by rw [List.length_map]; omega) hjl (by
              rcases hss.below hB with h | ⟨b, off, rfl, hb, hc⟩
              · left; simpa using h
              · right
                refine ⟨b, off, rfl, hb, fun j hj => ?_⟩
                rw [List.length_map] at hj
                rw [hc j (by rw [List.length_map]; exact hj), List.getElem?_map, List.getElem?_map, List.getElem?_eq_getElem hj]
                rfl)
            rw [List.length_map] at h
            exact h
          have zt := str_size (wRibbon ++ 32 :: (Lib.itoa g.n ++ 58 :: arcsT 45 g.es))
          have zj := str_size (joinT [32, 47] (ls.map intsT))
          have zl : (str (wRibbon ++ 32 :: (Lib.itoa g.n ++ 58 :: arcsT 45 g.es)) ++ ({ data := #[32, 59] } : ByteArray)) = str (wRibbon ++ 32 :: (Lib.itoa g.n ++ 58 :: arcsT 45 g.es) ++ [32, 59]) := str_add2 _
          have HLM : Hid (∀ w, Calls Tryz.prog 41 #[.string (str (wRibbon ++ 32 :: (Lib.itoa g.n ++ 58 :: arcsT 45 g.es) ++ [32, 59] ++ joinT [32, 47] (ls.map intsT)))] w fun e w' => e = .returned (limV Z) ∧ w' = w) := by
            intro w
            rw [HZ2.out]
            have h := n_limited (wRibbon ++ 32 :: (Lib.itoa g.n ++ 58 :: arcsT 45 g.es) ++ [32, 59] ++ joinT [32, 47] (ls.map intsT)) w
            simp only [List.append_assoc, List.cons_append, List.nil_append] at h ⊢
            exact h
          generalize wRibbon ++ 32 :: (Lib.itoa g.n ++ 58 :: arcsT 45 g.es) = tx at *
          generalize joinT [32, 47] (ls.map intsT) = jn at *
          have zx := str_size (tx ++ [32, 59])
          rw [List.length_append] at zx
          simp only [List.length_cons, List.length_nil] at zx
          have hae : str (tx ++ [32, 59]) ++ str jn = str (tx ++ 32 :: 59 :: jn) := by rw [str_app]; simp
          have HLM : Hid (∀ w, Calls Tryz.prog 41 #[.string (str (tx ++ 32 :: 59 :: jn))] w fun e w' => e = .returned (limV Z) ∧ w' = w) := by simpa only [List.append_assoc, List.cons_append, List.nil_append] using HLM
          obtain ⟨z1, z2⟩ := Z
          unfold limV at HLM
          dsimp only at HLM
          clear hss hsc hsm HO HC HZ HZ2
          go_upto_region 20 with fail
          let S : World → Prop := fun W' => Hid (Below W9.heap.size W9 W')
          (refine wp_region_text 16 [1,2,3,4,5,9,0,6,7,8,10,11,12,13,14,15] S (by kernel_rfl) (by kernel_rfl) (by intro _ _ d _ _ h; cases d <;> exact h) ?hS ?_; rotate_left; simp only [List.map_cons, List.map_nil, List.getD_cons_zero, List.getD_cons_succ, List.drop_succ_cons, List.drop_zero])
          case hS => exact Below.drew (Below.refl _ _)
          (repeat ((refine' wpSeq_take rfl _ (by rfl) ?_ ?_; rotate_left; focus (intro w' hS; (try dsimp only at hS); obtain ⟨s0, s1, s2⟩ := hcl.out _ hS.out; go_simp; (first | done | with_reducible rfl)); (try simp only [Act.put, List.setIfInBounds_toArray, List.set_cons_zero, List.set_cons_succ])); (try simp only [Act.put, List.setIfInBounds_toArray, List.set_cons_zero, List.set_cons_succ])))
          (refine wpSeq_call rfl (by rfl) (fun K hK => ?_); go_simp; refine ((n_ribbons _)).mono ?_; rintro e w2 ⟨rfl, hB2⟩; refine hK _ _ (((Below.drew (Below.refl W9.heap.size W9)).trans hB2)) ?_; clear hK K; (try simp only [Act.put, List.setIfInBounds_toArray, List.set_cons_zero, List.set_cons_succ]))
          have HB2 := hid ((Below.drew (Below.refl W9.heap.size W9)).trans hB2)
          clear hB2
          (refine wpSeq_call rfl (by rfl) (fun K hK => ?_); go_simp; refine ((n_edges g _ w2 (HG9.out.below HB2.out) (by have := HGL.out; omega))).mono ?_; rintro e w3 ⟨lv, rfl, hlr, hB3⟩; refine hK _ _ ((up HB2.out hB3)) ?_; clear hK K; (try simp only [Act.put, List.setIfInBounds_toArray, List.set_cons_zero, List.set_cons_succ]))
          have HB3 := hid (up HB2.out hB3)
          clear hB3
          (refine wpSeq_call rfl (by rfl) (fun K hK => ?_); go_simp; refine ((HW.out lv w3 hlr)).mono ?_; rintro e w4 ⟨rfl, hB4⟩; refine hK _ _ ((up HB3.out hB4)) ?_; clear hK K; (try simp only [Act.put, List.setIfInBounds_toArray, List.set_cons_zero, List.set_cons_succ]))
          have HB4 := hid (up HB3.out hB4)
          clear hB4 hlr
          have zc : (({ data := #[32, 59] } : ByteArray)).size = 2 := rfl
          (refine' wpSeq_take rfl _ (by rfl) ?_ ?_; rotate_left; focus (intro w' hS; (try dsimp only at hS); go_simp; rw [if_neg (by omega)]); (try simp only [Act.put, List.setIfInBounds_toArray, List.set_cons_zero, List.set_cons_succ]))
          (repeat ((refine' wpSeq_take rfl _ (by rfl) ?_ ?_; rotate_left; focus (intro w' hS; (try dsimp only at hS); have s1 := hS; go_simp; (first | done | with_reducible rfl)); (try simp only [Act.put, List.setIfInBounds_toArray, List.set_cons_zero, List.set_cons_succ])); (try simp only [Act.put, List.setIfInBounds_toArray, List.set_cons_zero, List.set_cons_succ])))
          (refine wpSeq_call rfl (by rfl) (fun K hK => ?_); go_simp; refine ((HJN.out w4 HB4.out)).mono ?_; rintro e w5 ⟨rfl, hB5⟩; refine hK _ _ ((up HB4.out hB5)) ?_; clear hK K; (try simp only [Act.put, List.setIfInBounds_toArray, List.set_cons_zero, List.set_cons_succ]))
          have HB5 := hid (up HB4.out hB5)
          clear hB5
          (refine' wpSeq_take rfl _ (by rfl) ?_ ?_; rotate_left; focus (intro w' hS; (try dsimp only at hS); go_simp; rw [if_neg (by omega)]); (try simp only [Act.put, List.setIfInBounds_toArray, List.set_cons_zero, List.set_cons_succ]))
          (refine wpSeq_call rfl (by rfl) (fun K hK => ?_); go_simp; refine ((HLM.out w5)).mono ?_; rintro e w6 ⟨rfl, rfl⟩; refine hK _ _ (HB5.out) ?_; clear hK K; (try simp only [Act.put, List.setIfInBounds_toArray, List.set_cons_zero, List.set_cons_succ]))
          (repeat ((refine' wpSeq_take rfl _ (by rfl) ?_ ?_; rotate_left; focus (intro w' hS; (try dsimp only at hS); have s1 := hS; go_simp; (first | done | with_reducible rfl)); (try simp only [Act.put, List.setIfInBounds_toArray, List.set_cons_zero, List.set_cons_succ])); (try simp only [Act.put, List.setIfInBounds_toArray, List.set_cons_zero, List.set_cons_succ])))
          refine wpSeq_nil ?_
          clear S
          go_wp2_with fail
          refine bodyPost_ret (results_two rfl _ _ _) rfl ?_
          exact ⟨rfl, up HB0.out (HB.out.trans (HB5.out.mono HB.out.size))⟩
    · have hz := HZ.out
      rw [if_pos (by simpa using hn)] at hz
      have HZ := hid hz
      have hn2 : ((ls.length : Int) != g.n) = true := by simpa using hn
      clear hz hn
      go_wp2_with fail
      refine bodyPost_ret (results_two rfl _ _ _) rfl ?_
      rw [HZ.out]
      exact ⟨rfl, up HB0.out HB1.out⟩
  · rw [if_pos hc] at hz
    have HZ := hid hz
    rw [if_neg hc] at HPS
    have hc1 : (checkErr g != 0) = true := by simpa using hc
    generalize checkErr g = z at *
    clear hz hc
    go_wp2_with fail
    refine HPS.out.mono ?_
    rintro e w1 ⟨rfl, hB1⟩
    have HB1 := hid (up HB0.out hB1)
    clear hB1
    dsimp only
    go_wp2_with fail
    refine bodyPost_ret (results_two rfl _ _ _) rfl ?_
    rw [HZ.out]
    exact ⟨rfl, HB1.out⟩

end Go.Proofs.YtemmepgfngkgmaaGreatDoor

namespace Go.Proofs.YtemmepgfngkgmaaGreatDoor
open Go.RowKit
set_option linter.unusedVariables false
set_option linter.unusedSimpArgs false

set_option maxRecDepth 100000 in
set_option maxHeartbeats 1000000 in
theorem c_Equal_eq (xs : List Int) (av bv : Value) (w : World) (ha : IntsR w av xs) (hb : IntsR w bv xs) :
    Calls Tryz.prog 29 #[av, bv] w fun e w' => e = .returned (.bool true) ∧ Below w.heap.size w w' := by
  obtain ⟨a, cap, rfl, hcap, hcm, hlen, hc⟩ := ha
  obtain ⟨a', cap', rfl, hcap', hcm', hlen', hc'⟩ := hb
  have hne : ((xs.length : Int) != (xs.length : Int)) = false := by simp
  go_enter Tryz.func29, Tryz.ntmps29
  go_wp2
  go_loopw [13] (fun i wr => ∃ k : Nat, k ≤ xs.length ∧ i = .int .i64 k ∧ Below w.heap.size w wr) (fun i _ => xs.length - (intOf i).toNat)
  case atStart => exact ⟨0, Nat.zero_le _, rfl, Below.refl _ _⟩
  case round =>
    obtain ⟨k, hkn, rfl, hB⟩ := hrel
    by_cases hlt : k < xs.length
    · obtain ⟨b, off, rfl, hb, hcc⟩ := (hc.below hB).int (by omega)
      obtain ⟨b', off', rfl, hb', hcc'⟩ := (hc'.below hB).int (by omega)
      have c1 := hcc k hlt
      have c2 := hcc' k hlt
      clear hcc hcc' hc hc'
      have hk1 : (k : Int) < (xs.length : Int) := by omega
      have hk0 : (0 : Int) ≤ (k : Int) := by omega
      generalize xs[k]?.getD 0 = x at *
      have hxx : (x != x) = false := by simp
      go_wp2
      go_quiet (fail)
      go_wp2
      go_roundw
      case rel => exact ⟨k + 1, by omega, by go_num, below_dN hB _⟩
      case measure => simp [intOf]; omega
    · obtain rfl : k = xs.length := by omega
      go_wp2
      go_ret
      exact ⟨rfl, hB⟩

theorem ints_new (w : World) (l : List Int) (e : TypeId) (n : Nat) (hn : n = l.length) (arr : Array Value) (ha : arr = (l.map (Value.int .i64)).toArray) (h : l.length ≤ 1000) : IntsR (w.alloc (.cells arr e)) (.slice (some ⟨w.heap.size, 0, none⟩) n n) l := by
  subst hn ha
  refine ⟨some ⟨w.heap.size, 0, none⟩, l.length, rfl, Nat.le_refl _, by omega, by omega, .inr ⟨w.heap.size, 0, rfl, by simp, fun i hi => ?_⟩⟩
  rw [Nat.zero_add]
  simp [World.cell?_alloc_new]

def ax1 : List UInt8 := [103, 114, 97, 112, 104, 32, 51, 58, 32, 50, 45, 48, 32, 49, 45, 49, 42, 50, 32, 48, 45, 50]
def ax2 : List UInt8 := [100, 105, 118, 105, 115, 111, 114, 32, 49, 32, 45, 50, 32, 48]
def ax3 : List UInt8 := [114, 105, 98, 98, 111, 110, 32, 50, 58, 32, 48, 45, 49, 42, 50, 32, 59, 32, 48, 32, 50, 32, 47, 32, 51, 32, 49]
def ax4 : List UInt8 := [103, 114, 97, 112, 104, 32, 50, 58, 32, 48, 45, 50]
def ax5 : List UInt8 := [103, 114, 97, 112, 104, 32, 50, 59, 32, 48, 45, 49]
def ax6 : List UInt8 := [100, 105, 103, 114, 97, 112, 104, 32, 50, 58, 32, 48, 45, 49]
def ax7 : List UInt8 := [103, 114, 97, 112, 104, 32, 51, 58, 32, 48, 45, 50, 42, 50, 32, 49, 45, 49, 42, 50]
def ax8 : List UInt8 := [100, 105, 118, 105, 115, 111, 114]
def ag1 : G := ⟨3, [⟨0, 2, 2⟩, ⟨1, 1, 2⟩]⟩
def ag3 : G := ⟨2, [⟨0, 1, 2⟩]⟩
theorem ae1 : tableP wGraph 45 true (opened (scanR ax1)) = (ag1, 0, 0) := by kernel_rfl
theorem ae2 : readIntsR ax2 = .inr (ax8, [1, -2, 0]) := by kernel_rfl
theorem ae3 : ribP (opened (scanR ax3)) = ((ag3, [[0, 2], [3, 1]]), 0, 0) := by kernel_rfl
theorem ae4 : tableP wGraph 45 true (opened (scanR ax4)) = (⟨0, []⟩, 11, 2) := by kernel_rfl
theorem ae5 : tableP wGraph 45 true (opened (scanR ax5)) = (⟨0, []⟩, 7, 4) := by kernel_rfl
theorem ae6 : tableP wDigraph 62 false (opened (scanR ax6)) = (⟨0, []⟩, 12, 4) := by kernel_rfl
theorem ae7 : graphR ag1 = (0, ax7) := by kernel_rfl
theorem ae8 : ribR ag3 [[0, 2], [3, 1]] = (0, ax3) := by kernel_rfl

theorem aw_graph (t : List UInt8) (g : G) (p k : Int) (h : tableP wGraph 45 true (opened (scanR t)) = (g, p, k)) (w : World) (hE : Env w) :
    Calls Tryz.prog 16 #[.string (str t)] w fun e w' => ∃ a cap, e = .returned (.tuple #[.agg #[.int .i64 g.n, .slice a g.es.length cap], .int .i64 p, .int .i64 k]) ∧ GrR w' (.agg #[.int .i64 g.n, .slice a g.es.length cap]) g ∧ Below w.heap.size w w' := by
  refine (n_ReadGraph t w hE).mono ?_
  rw [h]
  rintro e w' ⟨gv, rfl, hg, hB⟩
  have hg' := hg
  obtain ⟨ev, rfl, a, cap, rfl, _⟩ := hg'
  exact ⟨a, cap, rfl, hg, hB⟩
theorem aw_digraph (t : List UInt8) (g : G) (p k : Int) (h : tableP wDigraph 62 false (opened (scanR t)) = (g, p, k)) (w : World) (hE : Env w) :
    Calls Tryz.prog 35 #[.string (str t)] w fun e w' => ∃ a cap, e = .returned (.tuple #[.agg #[.int .i64 g.n, .slice a g.es.length cap], .int .i64 p, .int .i64 k]) ∧ Below w.heap.size w w' := by
  refine (n_ReadDigraph t w hE).mono ?_
  rw [h]
  rintro e w' ⟨gv, rfl, hg, hB⟩
  obtain ⟨ev, rfl, a, cap, rfl, _⟩ := hg
  exact ⟨a, cap, rfl, hB⟩
theorem aw_ints (t u : List UInt8) (l : List Int) (h : readIntsR t = .inr (u, l)) (w : World) (hE : Env w) :
    Calls Tryz.prog 27 #[.string (str t)] w fun e w' => ∃ v, e = .returned (.tuple #[.string (str u), v, .int .i64 0, .int .i64 0]) ∧ IntsR w' v l ∧ Below w.heap.size w w' := by
  refine (n_ReadInts t w hE).mono ?_
  rw [h]
  rintro e w' ⟨⟨v, h1, h2⟩, hB⟩
  exact ⟨v, h1, h2, hB⟩
theorem aw_ribbon (t : List UInt8) (g : G) (ls : List (List Int)) (p k : Int) (h : ribP (opened (scanR t)) = ((g, ls), p, k)) (w : World) (hE : Env w) :
    Calls Tryz.prog 22 #[.string (str t)] w fun e w' => ∃ a cap b c, e = .returned (.tuple #[.agg #[.int .i64 g.n, .slice a g.es.length cap, .slice b ls.length c], .int .i64 p, .int .i64 k]) ∧
      RibR w' (.agg #[.int .i64 g.n, .slice a g.es.length cap, .slice b ls.length c]) (g, ls) ∧ Below w.heap.size w w' := by
  refine (n_ReadRibbon t w hE).mono ?_
  rw [h]
  rintro e w' ⟨gv, rfl, hg, hB⟩
  have hg' := hg
  obtain ⟨ev, lv, rfl, ⟨a, cap, rfl, _⟩, ⟨b, c, _, rfl, _⟩⟩ := hg'
  exact ⟨a, cap, b, c, rfl, hg, hB⟩

set_option maxRecDepth 100000 in
set_option maxHeartbeats 8000000 in
theorem l_awake (w : World) (hE : Env w) : Calls Tryz.prog 12 #[] w fun e w' => e = .returned (.bool true) ∧ Below w.heap.size w w' := by
  have z7 : ((str ax7).toList == [103, 114, 97, 112, 104, 32, 51, 58, 32, 48, 45, 50, 42, 50, 32, 49, 45, 49, 42, 50]) = true := by rw [ByteArray.toList_eq]; rfl
  have z8 : ((str ax8).toList == [100, 105, 118, 105, 115, 111, 114]) = true := by rw [ByteArray.toList_eq]; rfl
  have z3 : ((str ax3).toList == [114, 105, 98, 98, 111, 110, 32, 50, 58, 32, 48, 45, 49, 42, 50, 32, 59, 32, 48, 32, 50, 32, 47, 32, 51, 32, 49]) = true := by rw [ByteArray.toList_eq]; rfl
  have HE := hid hE
  clear hE
  go_enter Tryz.func12, Tryz.ntmps12
  go_wp2_with fail
  refine (aw_graph ax1 ag1 0 0 ae1 w HE.out).mono ?_
  rintro e w1 ⟨a1, c1, rfl, hg1, hB1⟩
  have HG1 := hid hg1
  have HB1 := hid hB1
  clear hg1 hB1
  go_simp
  go_wp2_with fail
  have HA1 := hid ((Below.refl w1.heap.size w1).alloc (Nat.le_refl _) (.cells #[Value.int .i64 ag1.n, .slice a1 ag1.es.length c1] 24))
  generalize w1.alloc (.cells #[Value.int .i64 ag1.n, .slice a1 ag1.es.length c1] 24) = W1 at *
  have HB2 := hid (up HB1.out HA1.out)
  have h2 := n_Graph ag1 _ W1 (HG1.out.below HA1.out)
  rw [ae7] at h2
  refine h2.mono ?_
  rintro e w2 ⟨rfl, hB⟩
  have HB3 := hid (up HB2.out hB)
  clear hB h2 HA1 HB1 HB2 HG1
  unfold limV
  go_simp
  go_wp2_with fail
  refine (aw_ints ax2 ax8 [1, -2, 0] ae2 w2 (HE.out.below HB3.out)).mono ?_
  rintro e w3 ⟨v2, rfl, hv2, hB⟩
  have HB4 := hid (up HB3.out hB)
  have HV2 := hid hv2
  clear hB HB3 hv2
  go_simp
  go_wp2_with fail
  have HA4 := hid ((Below.refl w3.heap.size w3).alloc (Nat.le_refl _) (.cells #[.int .i64 1, .int .i64 (-2), .int .i64 0] 3))
  have hn4 : IntsR (w3.alloc (.cells #[.int .i64 1, .int .i64 (-2), .int .i64 0] 3)) (.slice (some ⟨w3.heap.size, 0, none⟩) 3 3) [1, -2, 0] := ints_new w3 [1, -2, 0] _ 3 rfl _ rfl (by decide)
  refine (c_Equal_eq [1, -2, 0] _ _ _ (HV2.out.below HA4.out) hn4).mono ?_
  rintro e w4 ⟨rfl, hB⟩
  have HB5 := hid (up (up HB4.out HA4.out) hB)
  clear hB HA4 HB4 HV2 hn4
  go_simp
  go_wp2_with fail
  refine (aw_ribbon ax3 ag3 [[0, 2], [3, 1]] 0 0 ae3 w4 (HE.out.below HB5.out)).mono ?_
  rintro e w5 ⟨a3, c3, b3, d3, rfl, hr3, hB⟩
  have HB6 := hid (up HB5.out hB)
  have HR3 := hid hr3
  clear hB HB5 hr3
  go_simp
  go_wp2_with fail
  have HXW : Hid (w.heap.size ≤ w5.heap.size) := HB6.out.size
  have HAW := hid ((Below.refl w5.heap.size w5).alloc (Nat.le_refl _) (.cells #[Value.int .i64 ag3.n, .slice a3 ag3.es.length c3, .slice b3 2 d3] 40))
  have HRI : Hid (∀ W, RibR W (.agg #[.int .i64 ag3.n, .slice a3 ag3.es.length c3, .slice b3 2 d3]) (ag3, [[0, 2], [3, 1]]) → ∃ bb off, b3 = some ⟨bb, off, none⟩ ∧ bb < W.heap.size ∧ ∃ pa pc, W.cell? ⟨bb, off + 1, none⟩ = some (.slice pa 2 pc) ∧ IntsR W (.slice pa 2 pc) [3, 1]) := by
    rintro W ⟨ev, lv, e, _, h⟩
    injection e with e
    simp at e
    obtain ⟨rfl, rfl⟩ := e
    obtain ⟨a, cap, vs, e1, e2, e3, _, h1, h2, h3⟩ := h
    injection e1 with e1 _ _
    subst e1
    have h2 : vs.length = 2 := h2
    rcases h1 with h1 | ⟨bb, off, rfl, h4, h5⟩
    · rw [h1] at h2; simp at h2
    · have h6 := h5 1 (by omega)
      have h7 := h3 1 (by decide)
      obtain ⟨pa, pc, h8, _⟩ := h7
      refine ⟨bb, off, rfl, h4, pa, pc, ?_, ?_⟩
      · rw [h6, List.getElem?_eq_getElem (by omega)]
        rw [List.getElem?_eq_getElem (by omega)] at h8
        exact congrArg some h8
      · have h9 := h3 1 (by decide)
        rw [h8] at h9
        exact h9
  have HR6 := hid (HR3.out.below HAW.out)
  have HX6 := hid (Blk.new w5 #[Value.int .i64 ag3.n, .slice a3 ag3.es.length c3, .slice b3 2 d3] 40)
  generalize w5.alloc (.cells #[Value.int .i64 ag3.n, .slice a3 ag3.es.length c3, .slice b3 2 d3] 40) = W5 at *
  have HB7 := hid (up HB6.out HAW.out)
  have h2 := n_Ribbon ag3 [[0, 2], [3, 1]] _ W5 (HE.out.below HB7.out) HR6.out (by decide) (fun j => by match j with | 0 => decide | 1 => decide | j + 2 => exact Nat.zero_le _)
  rw [ae8] at h2
  refine h2.mono ?_
  rintro e w6 ⟨rfl, hB⟩
  have HB8 := hid (up HB7.out hB)
  have HX7 := hid (HX6.out.below hB)
  have HR7 := hid (HR6.out.below hB)
  clear hB h2 HR6 HB7 HB6 HX6 HR3 HXW HAW
  unfold limV
  obtain ⟨bb, off, rfl, hbl, pa, pc, hq1, hq2⟩ := HRI.out w6 HR7.out
  have HQ2 := hid hq2
  clear hq2 HRI
  have x2 : w6.cell? ⟨w5.heap.size, 2, none⟩ = some (.slice (some ⟨bb, off, none⟩) 2 d3) := (HX7.out.cell 2).trans rfl
  have hxl := HX7.out.lt
  go_simp
  go_wp2_with fail
  have HA8 := hid ((Below.refl w6.heap.size w6).alloc (Nat.le_refl _) (.cells #[.int .i64 3, .int .i64 1] 3))
  have hn8 : IntsR (w6.alloc (.cells #[.int .i64 3, .int .i64 1] 3)) (.slice (some ⟨w6.heap.size, 0, none⟩) 2 2) [3, 1] := ints_new w6 [3, 1] _ 2 rfl _ rfl (by decide)
  refine (c_Equal_eq [3, 1] _ _ _ (HQ2.out.below HA8.out) hn8).mono ?_
  rintro e w7 ⟨rfl, hB⟩
  have HB9 := hid (up (up HB8.out HA8.out) hB)
  clear hB HA8 HB8 HQ2 hn8 HX7 HR7 x2 hxl hq1 hbl
  go_simp
  go_wp2_with fail
  refine (aw_graph ax4 ⟨0, []⟩ 11 2 ae4 _ (HE.out.below HB9.out)).mono ?_
  rintro e w8 ⟨p0, q0, rfl, _, hB⟩
  have HC0 := hid (up HB9.out hB)
  clear hB HB9
  go_simp
  go_wp2_with fail
  have HD0 := hid (up HC0.out ((Below.refl w8.heap.size w8).alloc (Nat.le_refl _) (.cells #[.int .i64 0, .slice p0 0 q0] 24)))
  refine (aw_graph ax5 ⟨0, []⟩ 7 4 ae5 _ (HE.out.below HD0.out)).mono ?_
  rintro e w9 ⟨p1, q1, rfl, _, hB⟩
  have HC1 := hid (up HD0.out hB)
  clear hB HD0
  go_simp
  go_wp2_with fail
  have HD1 := hid (up HC1.out ((Below.refl w9.heap.size w9).alloc (Nat.le_refl _) (.cells #[.int .i64 0, .slice p1 0 q1] 24)))
  refine (aw_digraph ax6 ⟨0, []⟩ 12 4 ae6 _ (HE.out.below HD1.out)).mono ?_
  rintro e w10 ⟨p2, q2, rfl, hB⟩
  have HC2 := hid (up HD1.out hB)
  clear hB HD1
  go_simp
  go_wp2_with fail
  have HD2 := hid (up HC2.out ((Below.refl w10.heap.size w10).alloc (Nat.le_refl _) (.cells #[.int .i64 0, .slice p2 0 q2] 61)))
  go_ret
  exact ⟨rfl, HD2.out⟩

end Go.Proofs.YtemmepgfngkgmaaGreatDoor
