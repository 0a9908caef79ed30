/-
  Contracts of the notation: strconv.Itoa, limited. Contracts of the notation: written. Contracts of the notation: edges, Graph. Contracts of the notation: Ints.
-/
import Derived.Test.YtemmepgfngkgmaaGreatDoorN15
import Derived.Test.YtemmepgfngkgmaaGreatDoorKB
namespace Go.Proofs.YtemmepgfngkgmaaGreatDoor
open Go.RowKit
set_option linter.unusedVariables false
set_option linter.unusedSimpArgs false

theorem str_app (a b : List UInt8) : (str a) ++ (str b) = str (a ++ b) := by
  apply ByteArray.ext
  simp [str]
theorem below_grow (w : World) (k : Nat) (os : Array Obj) : Below w.heap.size w (Sort.grow (w.drewN k) os) := by
  refine ⟨rfl, rfl, rfl, ?_, fun b hb => ?_⟩
  · show w.heap.size ≤ (w.heap ++ os).size
    simp
  · show (w.heap ++ os)[b]? = w.heap[b]?
    rw [Array.getElem?_append_left hb]
theorem c_Itoa (n : Int) (h0 : -9223372036854775808 ≤ n) (h1 : n ≤ 9223372036854775807) (w : World) (hE : Env w) :
    Calls Tryz.prog 58 #[.int .i64 n] w fun e w' => e = .returned (.string (str (Lib.itoa n))) ∧ Below w.heap.size w w' := by
  refine (Any.strconv_Itoa nlayM171 n h0 h1 w hE.tab).mono ?_
  rintro e w' ⟨rfl, k, os, rfl⟩
  exact ⟨rfl, below_grow w k os⟩
theorem itoa_small (i : Nat) : Lib.itoa (i : Int) = Lib.decDigits i := by
  unfold Lib.itoa
  rw [if_neg (by omega)]
  rfl
theorem c_ItoaS (n : Int) (h0 : 0 ≤ n) (h1 : n < 100) (w : World) :
    Calls Tryz.prog 58 #[.int .i64 n] w fun e w' => e = .returned (.string (str (Lib.itoa n))) ∧ w' = w := by
  obtain ⟨i, rfl⟩ : ∃ i : Nat, n = i := ⟨n.toNat, by omega⟩
  rw [itoa_small]
  exact Any.strconv_Itoa_small nlay171 i (by omega) w
def limV (p : Int × List UInt8) : Value := .tuple #[.string (str p.2), .int .i64 p.1]
theorem n_limited (t : List UInt8) (w : World) : Calls Tryz.prog 41 #[.string (str t)] w fun e w' => e = .returned (limV (limR t)) ∧ w' = w := by
  have hs : (str t).size = t.length := str_size t
  unfold limR limV
  by_cases h : 4096 < t.length
  · rw [if_pos h]
    have h' : (4096 : Int) < ((str t).size : Int) := by omega
    go_enter Tryz.func41, Tryz.ntmps41
    go_wp2_with fail
    go_ret2
    exact ⟨rfl, rfl⟩
  · rw [if_neg h]
    have h' : ¬ (4096 : Int) < ((str t).size : Int) := by omega
    go_enter Tryz.func41, Tryz.ntmps41
    go_wp2_with fail
    go_ret2
    exact ⟨rfl, rfl⟩

end Go.Proofs.YtemmepgfngkgmaaGreatDoor

namespace Go.Proofs.YtemmepgfngkgmaaGreatDoor
open Go.RowKit
set_option linter.unusedVariables false
set_option linter.unusedSimpArgs false

/-- Numbers of two digits at most. -/
def lowE (x : E) : Prop := 0 ≤ x.a ∧ x.a < 100 ∧ 0 ≤ x.b ∧ x.b < 100 ∧ 1 ≤ x.m ∧ x.m < 100
theorem itoa_low {n : Int} (h0 : 0 ≤ n) (h1 : n < 100) : (Lib.itoa n).length ≤ 2 := by
  obtain ⟨i, rfl⟩ : ∃ i : Nat, n = i := ⟨n.toNat, by omega⟩
  rw [itoa_small, Lib.decDigits_length]
  by_cases h : i < 10
  · rw [Lib.nDigits_small h]; omega
  · rw [Lib.nDigits_big h, Lib.nDigits_small (by omega)]; omega
theorem arcT_low (sign : UInt8) {x : E} (h : lowE x) : (arcT sign x).length ≤ 9 := by
  obtain ⟨h1, h2, h3, h4, h5, h6⟩ := h
  have a := itoa_low h1 h2
  have b := itoa_low h3 h4
  have c := itoa_low (n := x.m) (by omega) h6
  unfold arcT timesT
  split <;> simp <;> omega

theorem str4 (a b : List UInt8) (x y : UInt8) : str a ++ ({ data := #[x] } : ByteArray) ++ str b ++ ({ data := #[y] } : ByteArray) = str (a ++ x :: (b ++ [y])) := by
  apply ByteArray.ext
  simp [str]

theorem blk_keep {W w' : World} {b B : Nat} {cs : Array Value} {t : TypeId} (h : Blk W b cs t) (hB : Below B W w') (hb : b < B) : Blk w' b cs t := by
  unfold Blk at *
  rw [hB.block b hb]
  exact h
theorem drop_arcs {sign : UInt8} {es : List E} {k : Nat} (h : k < es.length) : arcsT sign (es.drop k) = arcT sign (es[k]?.getD default) ++ arcsT sign (es.drop (k + 1)) := by
  rw [List.drop_eq_getElem_cons h, List.getElem?_eq_getElem h]
  rfl
theorem str4b (a b : List UInt8) (x y : UInt8) : ({ data := #[x] } : ByteArray) ++ str a ++ str [y] ++ str b = str (x :: (a ++ y :: b)) := by
  apply ByteArray.ext
  simp [str]
theorem str2b (a : List UInt8) (x : UInt8) : ({ data := #[x] } : ByteArray) ++ str a = str (x :: a) := by
  apply ByteArray.ext
  simp [str]
set_option maxRecDepth 100000 in
set_option maxHeartbeats 4000000 in
theorem n_written (word : List UInt8) (sign : UInt8) (f : Nat) (n : Int) (es : List E) (v : Value) (w : World) (h0 : 0 ≤ n) (h1 : n < 100) (hes : ∀ x ∈ es, lowE x) (hlen : es.length ≤ 1000000) (hw : word.length ≤ 100) (hL : LinesR w v es) :
    Calls Tryz.prog 43 #[sortV word sign f, .int .i64 n, v] w fun e w' => e = .returned (.string (str (word ++ 32 :: (Lib.itoa n ++ 58 :: arcsT sign es)))) ∧ Below w.heap.size w w' := by
  obtain ⟨Z, HZ⟩ : ∃ Z, Hid (Z = word ++ 32 :: (Lib.itoa n ++ 58 :: arcsT sign es)) := ⟨_, rfl⟩
  rw [← HZ.out]
  have HL := hid hL
  have hn2 := itoa_low h0 h1
  have hit := hid (fun w => c_ItoaS n h0 h1 w)
  have HES := hid hes
  obtain ⟨a, cap, rfl, hcap, hcm, _⟩ := hL
  clear hes
  unfold sortV
  go_enter Tryz.func43, Tryz.ntmps43
  go_upto_region 2 with fail
  have HSB := hid ((Blk.new w #[.string (str word), .string (str [sign]), .func (.func f) #[] #[]] 89).alloc (.cells #[.pointer none, .slice none 0 0] 118))
  have HBD := hid (Bld.fresh (w.alloc (.cells #[.string (str word), .string (str [sign]), .func (.func f) #[] #[]] 89)))
  have HB := hid (((Below.refl w.heap.size w).alloc (Nat.le_refl _) (.cells #[.string (str word), .string (str [sign]), .func (.func f) #[] #[]] 89)).alloc (by simp) (.cells #[.pointer none, .slice none 0 0] 118))
  simp only [World.size_alloc] at HBD
  generalize hbb : w.heap.size + 1 = bb at *
  generalize (w.alloc (.cells #[.string (str word), .string (str [sign]), .func (.func f) #[] #[]] 89)).alloc (.cells #[.pointer none, .slice none 0 0] 118) = W2 at *
  let S : World → Prop := fun W' => Hid (W' = W2.drew)
  (refine wp_region_text 7 [0,1,2,3,4,5,6] S (by kernel_rfl) (by kernel_rfl) (by intro _ _ d _ _ h; cases d <;> exact h) ?hS ?_; rotate_left; simp only [List.map_cons, List.map_nil, List.getD_cons_zero, List.getD_cons_succ, List.drop_succ_cons, List.drop_zero])
  case hS => exact rfl
  have c0 : W2.cell? ⟨w.heap.size, 0, none⟩ = some (.string (str word)) := (HSB.out.cell 0).trans rfl
  have zw := str_size word
  have zn := str_size (Lib.itoa n)
  (repeat ((refine' wpSeq_take rfl _ (by rfl) ?_ ?_; rotate_left; focus (intro w' hS; (try dsimp only at hS); obtain rfl := hS.out; go_simp; (first | done | with_reducible rfl)); (try simp only [Act.put, List.setIfInBounds_toArray, List.set_cons_zero, List.set_cons_succ])); (try simp only [Act.put, List.setIfInBounds_toArray, List.set_cons_zero, List.set_cons_succ])))
  (refine' wpSeq_take rfl _ (by rfl) ?_ ?_; rotate_left; focus (intro w' hS; (try dsimp only at hS); obtain rfl := hS.out; go_simp; rw [if_neg (by omega)]); (try simp only [Act.put, List.setIfInBounds_toArray, List.set_cons_zero, List.set_cons_succ]))
  (repeat ((refine' wpSeq_take rfl _ (by rfl) ?_ ?_; rotate_left; focus (intro w' hS; (try dsimp only at hS); obtain rfl := hS.out; go_simp; (first | done | with_reducible rfl)); (try simp only [Act.put, List.setIfInBounds_toArray, List.set_cons_zero, List.set_cons_succ])); (try simp only [Act.put, List.setIfInBounds_toArray, List.set_cons_zero, List.set_cons_succ])))
  (refine wpSeq_call rfl (by rfl) (fun K hK => ?_); go_simp; refine ((hit.out _)).mono ?_; rintro e w1 ⟨rfl, rfl⟩; refine hK _ _ (rfl) ?_; clear hK K; (try simp only [Act.put, List.setIfInBounds_toArray, List.set_cons_zero, List.set_cons_succ]))
  (repeat ((refine' wpSeq_take rfl _ (by rfl) ?_ ?_; rotate_left; focus (intro w' hS; (try dsimp only at hS); obtain rfl := hS.out; go_simp; (first | done | with_reducible rfl)); (try simp only [Act.put, List.setIfInBounds_toArray, List.set_cons_zero, List.set_cons_succ])); (try simp only [Act.put, List.setIfInBounds_toArray, List.set_cons_zero, List.set_cons_succ])))
  (refine' wpSeq_take rfl _ (by rfl) ?_ ?_; rotate_left; focus (intro w' hS; (try dsimp only at hS); obtain rfl := hS.out; go_simp; rw [if_neg (by omega)]); (try simp only [Act.put, List.setIfInBounds_toArray, List.set_cons_zero, List.set_cons_succ]))
  (refine' wpSeq_take rfl _ (by rfl) ?_ ?_; rotate_left; focus (intro w' hS; (try dsimp only at hS); obtain rfl := hS.out; go_simp; rw [if_neg (by omega)]); (try simp only [Act.put, List.setIfInBounds_toArray, List.set_cons_zero, List.set_cons_succ]))
  refine wpSeq_nil ?_
  clear S
  go_wp2_with fail
  rw [str4]
  refine (c_WriteString bb bb [] (word ++ 32 :: (Lib.itoa n ++ [58])) W2.drew (HBD.out.below (Below.drew (Below.refl _ _))) (by simp) (by simp; omega)).mono ?_
  rintro e w3 ⟨rv, rfl, hbd, hbw, _⟩
  have HBD3 := hid hbd
  have HB3 : Hid (Below bb W2 w3) := (Below.drew (Below.refl bb W2)).trans hbw
  have hac : ([] ++ (word ++ 32 :: (Lib.itoa n ++ [58]))).length ≤ 110 := by simp; omega
  have HA : Hid (([] ++ (word ++ 32 :: (Lib.itoa n ++ [58]))) ++ arcsT sign (es.drop 0) = Z) := by show _ = _; rw [HZ.out]; simp
  generalize [] ++ (word ++ 32 :: (Lib.itoa n ++ [58])) = acc0 at *
  clear hbd hbw c0 zn hit hn2
  dsimp only
  go_wp2_with fail
  go_loopw [20] (fun i wr => ∃ (k : Nat) (acc : List UInt8), k ≤ es.length ∧ i = .int .i64 k ∧ acc.length ≤ 110 + 9 * k ∧ Hid (Bld bb bb acc wr) ∧ Hid (acc ++ arcsT sign (es.drop k) = Z) ∧ Hid (Below bb W2 wr)) (fun i _ => es.length - (intOf i).toNat)
  case atStart => exact ⟨0, acc0, Nat.zero_le _, rfl, hac, HBD3, HA, HB3⟩
  case round =>
    clear HA HBD3 HB3 hac
    obtain ⟨k, acc, hk, rfl, hacc, HBD, HA, HBW⟩ := hrel
    have hwb : w.heap.size ≤ bb := by omega
    have HBR := hid (HB.out.trans (HBW.out.mono hwb))
    have HSB1 := hid (blk_keep HSB.out HBW.out (by omega))
    by_cases hlt : k < es.length
    · obtain ⟨a', cap', ea, _, _, hc⟩ := HL.out.below HBR.out
      injection ea with ea1 _ ea3
      subst ea1 ea3
      rcases hc with rfl | ⟨b, off, rfl, hb, hc⟩
      · simp at hlt
      obtain ⟨c0, c1, c2, p, c3⟩ := hc k hlt
      have hlt' : (k : Int) < (es.length : Int) := by omega
      have hk0 : (0 : Int) ≤ (k : Int) := by omega
      have hlow : lowE (es[k]?.getD default) := HES.out _ (by rw [List.getElem?_eq_getElem hlt]; exact List.getElem_mem hlt)
      have ha2 := HA.out
      rw [drop_arcs hlt] at ha2
      clear hc HA
      generalize hx : es[k]?.getD default = x at *
      obtain ⟨xa, xb, xm⟩ := x
      dsimp only at c0 c1 c2
      have HA := hid ha2
      have HLOW := hid hlow
      have h9 := hid (arcT_low sign hlow)
      clear hx ha2 hlow
      go_upto_region 6 with fail
      have HX := hid (Blk.new wr #[.int .i64 xa, .int .i64 xb, .int .i64 xm, .int .i64 p] 149)
      have HW1 := hid (HBW.out.alloc (show bb ≤ wr.heap.size from HBD.out.2) (.cells #[.int .i64 xa, .int .i64 xb, .int .i64 xm, .int .i64 p] 149))
      have HBD1 := hid (HBD.out.below ((Below.refl _ _).alloc (Nat.le_refl _) (.cells #[.int .i64 xa, .int .i64 xb, .int .i64 xm, .int .i64 p] 149)))
      have HSB2 := hid (HSB1.out.alloc (.cells #[.int .i64 xa, .int .i64 xb, .int .i64 xm, .int .i64 p] 149))
      have hbX : bb < wr.heap.size := HBD.out.lt
      generalize hX : wr.heap.size = X at *
      generalize wr.alloc (.cells #[.int .i64 xa, .int .i64 xb, .int .i64 xm, .int .i64 p] 149) = W4 at *
      clear c0 c1 c2 c3 HBD HBW HSB1
      have x0 : W4.cell? ⟨X, 0, none⟩ = some (.int .i64 xa) := (HX.out.cell 0).trans rfl
      have x1 : W4.cell? ⟨X, 1, none⟩ = some (.int .i64 xb) := (HX.out.cell 1).trans rfl
      have x2 : W4.cell? ⟨X, 2, none⟩ = some (.int .i64 xm) := (HX.out.cell 2).trans rfl
      have y1 : W4.cell? ⟨w.heap.size, 1, none⟩ = some (.string (str [sign])) := (HSB2.out.cell 1).trans rfl
      have hXl := HX.out.lt
      have hia := hid (fun w => c_ItoaS xa HLOW.out.1 HLOW.out.2.1 w)
      have hib := hid (fun w => c_ItoaS xb HLOW.out.2.2.1 HLOW.out.2.2.2.1 w)
      have la : (str (Lib.itoa xa)).size ≤ 2 := by rw [str_size]; exact itoa_low HLOW.out.1 HLOW.out.2.1
      have lb : (str (Lib.itoa xb)).size ≤ 2 := by rw [str_size]; exact itoa_low HLOW.out.2.2.1 HLOW.out.2.2.2.1
      have ls : (str [sign]).size = 1 := str_size _
      let S : World → Prop := fun W' => Hid (W' = W4.drew)
      (refine wp_region_text 13 [0,1,2,5,6,8,9,10,3,4,7,11,12] S (by kernel_rfl) (by kernel_rfl) (by intro _ _ d _ _ h; cases d <;> exact h) ?hS ?_; rotate_left; simp only [List.map_cons, List.map_nil, List.getD_cons_zero, List.getD_cons_succ, List.drop_succ_cons, List.drop_zero])
      case hS => exact rfl
      (repeat ((refine' wpSeq_take rfl _ (by rfl) ?_ ?_; rotate_left; focus (intro w' hS; (try dsimp only at hS); obtain rfl := hS.out; go_simp; (first | done | with_reducible rfl)); (try simp only [Act.put, List.setIfInBounds_toArray, List.set_cons_zero, List.set_cons_succ])); (try simp only [Act.put, List.setIfInBounds_toArray, List.set_cons_zero, List.set_cons_succ])))
      (refine wpSeq_call rfl (by rfl) (fun K hK => ?_); go_simp; refine ((hia.out _)).mono ?_; rintro e w1 ⟨rfl, rfl⟩; refine hK _ _ (rfl) ?_; clear hK K; (try simp only [Act.put, List.setIfInBounds_toArray, List.set_cons_zero, List.set_cons_succ]))
      (refine' wpSeq_take rfl _ (by rfl) ?_ ?_; rotate_left; focus (intro w' hS; (try dsimp only at hS); obtain rfl := hS.out; go_simp; rw [if_neg (by omega)]); (try simp only [Act.put, List.setIfInBounds_toArray, List.set_cons_zero, List.set_cons_succ]))
      (refine' wpSeq_take rfl _ (by rfl) ?_ ?_; rotate_left; focus (intro w' hS; (try dsimp only at hS); obtain rfl := hS.out; go_simp; rw [if_neg (by omega)]); (try simp only [Act.put, List.setIfInBounds_toArray, List.set_cons_zero, List.set_cons_succ]))
      (refine wpSeq_call rfl (by rfl) (fun K hK => ?_); go_simp; refine ((hib.out _)).mono ?_; rintro e w1 ⟨rfl, rfl⟩; refine hK _ _ (rfl) ?_; clear hK K; (try simp only [Act.put, List.setIfInBounds_toArray, List.set_cons_zero, List.set_cons_succ]))
      (refine' wpSeq_take rfl _ (by rfl) ?_ ?_; rotate_left; focus (intro w' hS; (try dsimp only at hS); obtain rfl := hS.out; go_simp; rw [if_neg (by omega)]); (try simp only [Act.put, List.setIfInBounds_toArray, List.set_cons_zero, List.set_cons_succ]))
      refine wpSeq_nil ?_
      clear S
      go_wp2_with fail
      rw [str4b]
      have hl1 : (Lib.itoa xa).length ≤ 2 := itoa_low HLOW.out.1 HLOW.out.2.1
      have hl2 : (Lib.itoa xb).length ≤ 2 := itoa_low HLOW.out.2.2.1 HLOW.out.2.2.2.1
      refine (c_WriteString bb bb acc (32 :: (Lib.itoa xa ++ sign :: Lib.itoa xb)) W4.drew (HBD1.out.below (Below.drew (Below.refl _ _))) (by omega) (by simp; omega)).mono ?_
      rintro e w5 ⟨rv5, rfl, hbd, hbw, hoth⟩
      have HBD5 := hid hbd
      have HW5 := hid (HW1.out.trans ((Below.drew (Below.refl bb W4)).trans hbw))
      have HX5 := hid (Oth.blk hoth (Blk.drew HX.out) (by omega) (by decide))
      have x2 : w5.cell? ⟨X, 2, none⟩ = some (.int .i64 xm) := (HX5.out.cell 2).trans rfl
      have hXl := HX5.out.lt
      have hlow := HLOW.out
      obtain ⟨q1, q2, q3, q4, q5, q6⟩ := hlow
      dsimp only at q5 q6
      have hacc5 : (acc ++ 32 :: (Lib.itoa xa ++ sign :: Lib.itoa xb)).length ≤ 110 + 9 * k + 6 := by simp; omega
      clear hbd hbw hoth HX HW1 HBD1 HSB2 x0 x1 y1 hia hib la lb ls q1 q2 q3 q4
      dsimp only
      by_cases hm : 1 < xm
      · have him := hid (fun w => c_ItoaS xm (by omega) q6 w)
        have lm : (str (Lib.itoa xm)).size ≤ 2 := by rw [str_size]; exact itoa_low (by omega) q6
        go_wp2_with fail
        refine (him.out _).mono ?_
        rintro e w6 ⟨rfl, rfl⟩
        dsimp only
        go_wp2_with fail
        rw [str2b]
        have hl3 : (Lib.itoa xm).length ≤ 2 := itoa_low (by omega) q6
        refine (c_WriteString bb bb _ (42 :: Lib.itoa xm) w6 HBD5.out (by omega) (by simp; omega)).mono ?_
        rintro e w7 ⟨rv7, rfl, hbd, hbw, _⟩
        have HBD7 := hid hbd
        have HW7 := hid (HW5.out.trans hbw)
        clear hbd hbw
        dsimp only
        go_wp2_with fail
        go_roundw
        case rel =>
          refine ⟨k + 1, acc ++ 32 :: (Lib.itoa xa ++ sign :: Lib.itoa xb) ++ 42 :: Lib.itoa xm, by omega, by go_num, ?_, HBD7, ?_, HW7⟩
          · simp at hacc5 ⊢; omega
          · show _ = _
            rw [← HA.out]
            unfold arcT timesT
            dsimp only
            rw [if_neg (show ¬ xm = 1 by omega)]
            simp
        case measure => simp [intOf]; omega
      · go_wp2_with fail
        go_roundw
        case rel =>
          refine ⟨k + 1, acc ++ 32 :: (Lib.itoa xa ++ sign :: Lib.itoa xb), by omega, by go_num, by omega, HBD5, ?_, HW5⟩
          show _ = _
          rw [← HA.out]
          unfold arcT timesT
          dsimp only
          rw [if_pos (show xm = 1 by omega)]
          simp
        case measure => simp [intOf]; omega
    · obtain rfl : k = es.length := by omega
      have hz := HA.out
      rw [List.drop_length] at hz
      have hz2 : acc = Z := by rw [← hz]; simp [arcsT]
      have hlt' : ¬ (es.length : Int) < (es.length : Int) := by omega
      clear hz HA
      subst hz2
      go_wp2_with fail
      refine (c_String bb bb acc wr HBD.out).mono ?_
      rintro e w5 ⟨rfl, hB5⟩
      dsimp only
      go_wp2_with fail
      go_ret
      exact ⟨rfl, HBR.out.trans (hB5.mono hwb)⟩

end Go.Proofs.YtemmepgfngkgmaaGreatDoor

namespace Go.Proofs.YtemmepgfngkgmaaGreatDoor
open Go.RowKit
set_option linter.unusedVariables false
set_option linter.unusedSimpArgs false

theorem four_news (w : World) (x y z u : Int) (e : TypeId) (j : Nat) (c : Value) (h : [Value.int .i64 x, Value.int .i64 y, Value.int .i64 z, Value.int .i64 u][j]? = some c) : (w.alloc (.cells #[.int .i64 x, .int .i64 y, .int .i64 z, .int .i64 u] e)).cell? ((⟨w.heap.size, 0, none⟩ : Addr).add j) = some c := by
  have e1 : (⟨w.heap.size, 0, none⟩ : Addr).add j = ⟨w.heap.size, j, none⟩ := by unfold Addr.add; split <;> simp_all
  rw [e1, World.cell?_alloc_new]; simpa using h

set_option maxRecDepth 100000 in
set_option maxHeartbeats 2000000 in
theorem n_edges (g : G) (gv : Value) (w : World) (hg : GrR w gv g) (hes : g.es.length ≤ 1000000) :
    Calls Tryz.prog 44 #[gv] w fun e w' => ∃ v, e = .returned v ∧ LinesR w' v g.es ∧ Below w.heap.size w w' := by
  obtain ⟨i0, hi, hz0, hz1, hz2⟩ := info_parts info_line
  obtain ⟨ev, rfl, hE⟩ := hg
  have HL := hid hE
  obtain ⟨a, cap, rfl, hcap, hcm, _⟩ := hE
  generalize g.es = es at *
  generalize g.n = n at *
  go_enter Tryz.func44, Tryz.ntmps44
  go_wp2_with fail
  go_loopw [3, 9] (fun u i wr => ∃ k : Nat, k ≤ es.length ∧ i = .int .i64 k ∧ Hid (wr.ownsRow (w.heap.size + 1) 149 4 u k (linesC (es.take k))) ∧ Hid (Below w.heap.size w wr ∧ w.heap.size + 1 ≤ wr.heap.size))
    (fun _ i _ => es.length - (intOf i).toNat)
  case atStart => exact ⟨0, Nat.zero_le _, rfl, World.ownsRow_nil _ _ _ _, ⟨by go_grown, by simp⟩⟩
  case round =>
    obtain ⟨k, hkn, rfl, HO, HBS⟩ := hrel
    have HB := hid HBS.out.1
    have hbx := HBS.out.2
    clear HBS
    by_cases hlt : k < es.length
    · obtain ⟨a', cap', ea, _, _, _, hc⟩ := HL.out.below HB.out
      injection ea with ea1 _ ea3
      subst ea1 ea3
      obtain ⟨b, off, rfl, hb, hc⟩ := hc.edge (by omega)
      obtain ⟨c0, c1, c2⟩ := hc k hlt
      have hst := hid (take_step es k hlt)
      have hlt' : (k : Int) < (es.length : Int) := by omega
      have hk0 : (0 : Int) ≤ (k : Int) := by omega
      clear hc
      generalize hx : es[k]?.getD default = x at *
      obtain ⟨xa, xb, xm⟩ := x
      dsimp only at c0 c1 c2
      clear hx
      go_upto_region 5 with fail
      have hs := HB.out.size
      have HX := hid (Blk.new wr #[.int .i64 xa, .int .i64 xb, .int .i64 xm] 82)
      have HO1 := hid (HO.out.alloc (.cells #[.int .i64 xa, .int .i64 xb, .int .i64 xm] 82))
      have HB2 := hid (HB.out.alloc hs (.cells #[.int .i64 xa, .int .i64 xb, .int .i64 xm] 82))
      generalize hX : wr.heap.size = X at *
      generalize wr.alloc (.cells #[.int .i64 xa, .int .i64 xb, .int .i64 xm] 82) = W1 at *
      have x0 := HX.out.cell 0
      have x1 := HX.out.cell 1
      have x2 := HX.out.cell 2
      simp only [List.getElem?_toArray, List.getElem?_cons_zero, List.getElem?_cons_succ] at x0 x1 x2
      have hXl := HX.out.lt
      have hs1 := HB2.out.size
      clear c0 c1 c2 HO HB
      go_wp2_with (at_builtin; refine wpList_append_own _ rfl _ _ 92 rfl (w.heap.size + 1) 149 i0 (.agg #[.int .i64 0, .int .i64 0, .int .i64 0, .int .i64 0]) 4 32 und_lines hi hz0 hz1 hz2 rfl (by decide) _ k _ rfl (HO1.out.alloc _) ⟨W1.heap.size, 0, none⟩ 1 1 [.int .i64 xa, .int .i64 xb, .int .i64 xm, .int .i64 0] rfl rfl (fun j u h => four_news W1 xa xb xm 0 _ j u h) (by simp [Value.oneCell']) (by unfold maxLen; omega) (by omega) (by simp; omega) ?_; intro v' w2 hown2 hgr2 _; have HO2 := hid hown2; have HG := hid ((Below.toGrown ((Below.refl _ W1).alloc (Nat.le_refl _) (.cells #[.int .i64 xa, .int .i64 xb, .int .i64 xm, .int .i64 0] 149)) u3.ownBlock).trans hgr2); clear hown2 hgr2)
      go_roundw
      case rel =>
        refine ⟨k + 1, by omega, by go_num, ?_, ?_⟩
        · show World.ownsRow _ _ _ _ _ _ _
          rw [hst.out, linesC_append]
          exact HO2.out
        · refine ⟨?_, by have := HG.out.size; simp at *; omega⟩
          exact HB2.out.grown HG.out hs1 (fun q hq => by have := (HO1.out.lt q hq).1; omega)
      case measure => simp [intOf]; omega
    · obtain rfl : k = es.length := by omega
      rw [List.take_length] at HO
      have hlt' : ¬ (es.length : Int) < (es.length : Int) := by omega
      go_wp2_with fail
      go_ret
      exact ⟨_, rfl, owns_linesR HO.out, HB.out⟩

theorem gok_low {g : G} (h : Gok g) : ∀ x ∈ g.es, lowE x := fun x hx => by
  obtain ⟨h1, h2, h3, h4, h5⟩ := h.mem hx
  have := h.n
  exact ⟨h1, by omega, by omega, by omega, h4, by omega⟩
theorem results_two {fn : Func} {t u : Tmp} (h : fn.results = #[.tmp t, .tmp u]) (tmps : Array Value) (P : Program) (w : World) :
    (results fn tmps).run P w = .ok (.tuple #[tmps.getD t undef, tmps.getD u undef]) w := by
  simp [results, h]

set_option maxRecDepth 100000 in
set_option maxHeartbeats 4000000 in
theorem n_Graph (g : G) (gv : Value) (w : World) (hg : GrR w gv g) :
    Calls Tryz.prog 13 #[gv] w fun e w' => e = .returned (limV (graphR g)) ∧ Below w.heap.size w w' := by
  obtain ⟨Z, HZ⟩ : ∃ Z, Hid (Z = graphR g) := ⟨_, rfl⟩
  rw [← HZ.out]
  have HG0 := hid hg
  obtain ⟨ev, rfl, hE⟩ := hg
  obtain ⟨a, cap, rfl, _⟩ := hE
  have hgb := hid (Blk.new w #[.int .i64 g.n, .slice a g.es.length cap] 24)
  have HB0 := hid ((Below.refl w.heap.size w).alloc (Nat.le_refl _) (.cells #[.int .i64 g.n, .slice a g.es.length cap] 24))
  have HG1 := hid (HG0.out.below HB0.out)
  go_enter Tryz.func13, Tryz.ntmps13
  go_upto_region 1 with fail
  generalize w.alloc (.cells #[.int .i64 g.n, .slice a g.es.length cap] 24) = W0 at *
  have c0 : W0.cell? ⟨w.heap.size, 0, none⟩ = some (.int .i64 g.n) := (hgb.out.cell 0).trans rfl
  have c1 : W0.cell? ⟨w.heap.size, 1, none⟩ = some (.slice a g.es.length cap) := (hgb.out.cell 1).trans rfl
  have hgl := hgb.out.lt
  go_wp2_with fail
  refine (p_Check g _ W0 HG1.out).mono ?_
  rintro e w1 ⟨rfl, hB1⟩
  have HB1 := hid (up HB0.out hB1)
  have HG2 := hid (HG1.out.below hB1)
  have hgb1 := hid (hgb.out.below hB1)
  clear c0 c1 hgl hB1
  dsimp only
  by_cases hc : checkErr g = 0
  · have HZ2 : Hid (Z = limR (wGraph ++ 32 :: tabT 45 g)) := by have h := HZ.out; unfold graphR at h; rw [if_neg (by omega)] at h; exact h
    have hn := Gok.n hc
    have hlow := hid (gok_low hc)
    have hlen := Gok.len hc
    rw [hc]
    clear HZ hc HG0 HG1
    go_wp2_with fail
    have hcl : Hid (∀ W', Below w1.heap.size w1 W' → W'.cell? ⟨w.heap.size, 0, none⟩ = some (.int .i64 g.n) ∧ W'.cell? ⟨w.heap.size, 1, none⟩ = some (.slice a g.es.length cap) ∧ w.heap.size < W'.heap.size) := fun W' hB =>
      ⟨((hgb1.out.below hB).cell 0).trans rfl, ((hgb1.out.below hB).cell 1).trans rfl, (hgb1.out.below hB).lt⟩
    have HW := hid (fun (v : Value) (w : World) (hL : LinesR w v g.es) => n_written wGraph 45 96 g.n g.es v w (by omega) (by omega) hlow.out (by omega) (by decide) hL)
    have hlm := hid (fun w => n_limited (wGraph ++ 32 :: (Lib.itoa g.n ++ 58 :: arcsT 45 g.es)) w)
    have HZ3 : Hid (Z = limR (wGraph ++ 32 :: (Lib.itoa g.n ++ 58 :: arcsT 45 g.es))) := HZ2.out
    clear HZ2
    generalize limR (wGraph ++ 32 :: (Lib.itoa g.n ++ 58 :: arcsT 45 g.es)) = z at *
    obtain ⟨z1, z2⟩ := z
    unfold limV at hlm
    dsimp only at hlm
    let S : World → Prop := fun W' => Hid (Below w1.heap.size w1 W')
    (refine wp_region_text 10 [1,2,3,0,4,5,6,7,8,9] S (by kernel_rfl) (by kernel_rfl) (by intro _ _ d _ _ h; cases d <;> exact h) ?hS ?_; rotate_left; simp only [List.map_cons, List.map_nil, List.getD_cons_zero, List.getD_cons_succ, List.drop_succ_cons, List.drop_zero])
    case hS => exact Below.drew (Below.refl _ _)
    (repeat ((refine' wpSeq_take rfl _ (by rfl) ?_ ?_; rotate_left; focus (intro w' hS; (try dsimp only at hS); obtain ⟨s0, s1, s2⟩ := hcl.out _ hS.out; go_simp; (first | done | with_reducible rfl)); (try simp only [Act.put, List.setIfInBounds_toArray, List.set_cons_zero, List.set_cons_succ])); (try simp only [Act.put, List.setIfInBounds_toArray, List.set_cons_zero, List.set_cons_succ])))
    (refine wpSeq_call rfl (by rfl) (fun K hK => ?_); go_simp; refine ((n_graphs _)).mono ?_; rintro e w2 ⟨rfl, hB2⟩; refine hK _ _ (((Below.drew (Below.refl w1.heap.size w1)).trans hB2)) ?_; clear hK K; (try simp only [Act.put, List.setIfInBounds_toArray, List.set_cons_zero, List.set_cons_succ]))
    have HB2 := hid ((Below.drew (Below.refl w1.heap.size w1)).trans hB2)
    clear hB2
    (refine wpSeq_call rfl (by rfl) (fun K hK => ?_); go_simp; refine ((n_edges g _ w2 (HG2.out.below HB2.out) (by omega))).mono ?_; rintro e w3 ⟨lv, rfl, hlr, hB3⟩; refine hK _ _ ((up HB2.out hB3)) ?_; clear hK K; (try simp only [Act.put, List.setIfInBounds_toArray, List.set_cons_zero, List.set_cons_succ]))
    have HB3 := hid (up HB2.out hB3)
    clear hB3
    (refine wpSeq_call rfl (by rfl) (fun K hK => ?_); go_simp; refine ((HW.out lv w3 hlr)).mono ?_; rintro e w4 ⟨rfl, hB4⟩; refine hK _ _ ((up HB3.out hB4)) ?_; clear hK K; (try simp only [Act.put, List.setIfInBounds_toArray, List.set_cons_zero, List.set_cons_succ]))
    have HB4 := hid (up HB3.out hB4)
    clear hB4
    (refine wpSeq_call rfl (by rfl) (fun K hK => ?_); go_simp; refine ((hlm.out w4)).mono ?_; rintro e w5 ⟨rfl, rfl⟩; refine hK _ _ (HB4.out) ?_; clear hK K; (try simp only [Act.put, List.setIfInBounds_toArray, List.set_cons_zero, List.set_cons_succ]))
    (repeat ((refine' wpSeq_take rfl _ (by rfl) ?_ ?_; rotate_left; focus (intro w' hS; (try dsimp only at hS); have s1 := hS; go_simp; (first | done | with_reducible rfl)); (try simp only [Act.put, List.setIfInBounds_toArray, List.set_cons_zero, List.set_cons_succ])); (try simp only [Act.put, List.setIfInBounds_toArray, List.set_cons_zero, List.set_cons_succ])))
    refine wpSeq_nil ?_
    clear S
    go_wp2_with fail
    refine bodyPost_ret (results_two rfl _ _ _) rfl ?_
    rw [HZ3.out]
    exact ⟨rfl, up HB1.out HB4.out⟩
  · have HZ2 : Hid (Z = (checkErr g, [])) := by have h := HZ.out; unfold graphR at h; rw [if_pos hc] at h; exact h
    have hc1 : (checkErr g != 0) = true := by simpa using hc
    clear HZ hc
    go_wp2_with fail
    refine bodyPost_ret (results_two rfl _ _ _) rfl ?_
    rw [HZ2.out]
    exact ⟨rfl, HB1.out⟩

end Go.Proofs.YtemmepgfngkgmaaGreatDoor

namespace Go.Proofs.YtemmepgfngkgmaaGreatDoor
open Go.RowKit
set_option linter.unusedVariables false
set_option linter.unusedSimpArgs false

theorem nDig_le : ∀ (k n : Nat), n < 10 ^ k → 1 ≤ k → Lib.nDigits n ≤ k
  | 0, n, _, h => by omega
  | 1, n, h, _ => by rw [Lib.nDigits_small (by simpa using h)]; exact Nat.le_refl _
  | k + 2, n, h, _ => by
    by_cases h10 : n < 10
    · rw [Lib.nDigits_small h10]; omega
    · rw [Lib.nDigits_big h10]
      have := nDig_le (k + 1) (n / 10) (by rw [Nat.pow_succ] at h; omega) (by omega)
      omega
theorem itoa_chip {n : Int} (h : chipB n = true) : (Lib.itoa n).length ≤ 8 ∧ -1048576 ≤ n ∧ n ≤ 1048576 := by
  unfold chipB at h
  simp only [Bool.and_eq_true, decide_eq_true_eq] at h
  refine ⟨?_, h.1, h.2⟩
  unfold Lib.itoa
  have hn : n.natAbs ≤ 1048576 := by omega
  split
  · rw [List.length_cons, Lib.decDigits_length]
    have := nDig_le 7 n.natAbs (by omega) (by decide)
    omega
  · rw [Lib.decDigits_length]
    have := nDig_le 7 n.toNat (by omega) (by decide)
    omega
theorem str_add (a b : List UInt8) : str a ++ (({ data := #[32] } : ByteArray) ++ str b) = str (a ++ 32 :: b) := by
  apply ByteArray.ext
  simp [str]
theorem str_spc (b : List UInt8) : (({ data := #[32] } : ByteArray) ++ str b).size = b.length + 1 := by
  rw [str2b, str_size]; rfl
theorem intsT_snoc (l : List Int) (k : Nat) (h : k < l.length) : intsT (l.take (k + 1)) = intsT (l.take k) ++ 32 :: Lib.itoa (l[k]?.getD 0) := by
  rw [List.take_succ_eq_append_getElem h, List.getElem?_eq_getElem h]
  unfold intsT
  rw [List.flatMap_append]
  simp

set_option maxRecDepth 100000 in
set_option maxHeartbeats 2000000 in
theorem n_Ints (word : List UInt8) (l : List Int) (v : Value) (w : World) (hE : Env w) (hl : IntsR w v l) (hw : word.length ≤ 100) :
    Calls Tryz.prog 25 #[.string (str word), v] w fun e w' => e = .returned (limV (intsR word l)) ∧ Below w.heap.size w w' := by
  obtain ⟨Z, HZ⟩ : ∃ Z, Hid (Z = intsR word l) := ⟨_, rfl⟩
  rw [← HZ.out]
  have HL := hid hl
  have HE := hid hE
  obtain ⟨a, cap, rfl, hcap, hcm, _⟩ := hl
  go_enter Tryz.func25, Tryz.ntmps25
  go_wp2_with fail
  refine (p_Word word w (by omega)).mono ?_
  rintro e w1 ⟨rfl, hB1⟩
  have HB1 := hid hB1
  clear hB1
  have hz := HZ.out
  unfold intsR at hz
  dsimp only
  by_cases he : wordErr word = 0
  · rw [if_neg (by omega)] at hz
    rw [he]
    by_cases hlen : 256 < l.length
    · rw [if_pos hlen] at hz
      have hlI : (256 : Int) < (l.length : Int) := by omega
      have HZ := hid hz
      clear hz he
      go_wp2_with fail
      refine bodyPost_ret (results_two rfl _ _ _) rfl ?_
      rw [HZ.out]
      exact ⟨rfl, HB1.out⟩
    · rw [if_neg hlen] at hz
      have hlI : ¬ (256 : Int) < (l.length : Int) := by omega
      have HZ := hid hz
      clear hz he
      go_wp2_with fail
      go_loopw [7, 21] (fun s i wr => ∃ k : Nat, k ≤ l.length ∧ i = .int .i64 k ∧ s = .string (str (word ++ intsT (l.take k))) ∧ (word ++ intsT (l.take k)).length ≤ 100 + 9 * k ∧ Hid ((l.take k).all chipB = true) ∧ Hid (Below w.heap.size w wr))
        (fun _ i _ => l.length - (intOf i).toNat)
      case atStart => exact ⟨0, Nat.zero_le _, rfl, by simp [intsT], by simp [intsT]; exact hw, rfl, HB1⟩
      case round =>
        obtain ⟨k, hkn, rfl, rfl, hsl, HC, HB⟩ := hrel
        by_cases hlt : k < l.length
        · have hlt' : (k : Int) < (l.length : Int) := by omega
          have hk0 : (0 : Int) ≤ (k : Int) := by omega
          obtain ⟨a', cap', ea, _, _, _, hc⟩ := HL.out.below HB.out
          injection ea with ea1 _ ea3
          subst ea1 ea3
          obtain ⟨b, off, rfl, hb, hc⟩ := hc.int (by omega)
          have c0 := hc k hlt
          have HSN := hid (intsT_snoc l k hlt)
          have HTK : Hid (∀ c, chipB (l[k]?.getD 0) = c → (l.take (k + 1)).all chipB = c) := fun c hc => by
            rw [(take_step l k hlt : l.take (k + 1) = l.take k ++ [l[k]?.getD 0]), List.all_append, HC.out, ← hc]
            simp
          clear hc
          generalize l[k]?.getD 0 = x at *
          go_wp2_with fail
          refine (n_chips x wr).mono ?_
          rintro e w2 ⟨rfl, rfl⟩
          have HEr := hid (HE.out.below HB.out)
          clear c0 hb
          cases hcb : chipB x with
          | false =>
            have HZ2 : Hid (Z = (2, [])) := by
              have h := HZ.out
              have h2 : l.all chipB = false := by
                have h3 := HTK.out _ hcb
                have h4 : l.all chipB = ((l.take (k + 1)).all chipB && (l.drop (k + 1)).all chipB) := by rw [← List.all_append, List.take_append_drop]
                rw [h4, h3]; rfl
              rw [if_pos h2] at h
              exact h
            dsimp only
            go_wp2_with fail
            refine bodyPost_ret (results_two rfl _ _ _) rfl ?_
            rw [HZ2.out]
            exact ⟨rfl, HB.out⟩
          | true =>
            obtain ⟨h8, hx0, hx1⟩ := itoa_chip hcb
            have HTK2 := hid (HTK.out _ hcb)
            clear HTK hcb
            dsimp only
            go_wp2_with fail
            refine (c_Itoa x (by omega) (by omega) wr HEr.out).mono ?_
            rintro e w3 ⟨rfl, hB3⟩
            have HB3 := hid (up HB.out hB3)
            clear hB3 HEr
            have z1 := str_size (Lib.itoa x)
            have z2 := str_spc (Lib.itoa x)
            have z3 := str_size (word ++ intsT (l.take k))
            dsimp only
            go_wp2_with fail
            go_roundw
            case rel =>
              refine ⟨k + 1, by omega, by go_num, ?_, ?_, HTK2, HB3⟩
              · rw [str_add, HSN.out, List.append_assoc]
              · rw [HSN.out, ← List.append_assoc, List.length_append, List.length_cons]; omega
            case measure => simp [intOf]; omega
        · obtain rfl : k = l.length := by omega
          have HZ2 : Hid (Z = limR (word ++ intsT l)) := by
            have h := HZ.out
            have h2 := HC.out
            rw [List.take_length] at h2
            rw [if_neg (by rw [h2]; decide)] at h
            exact h
          rw [List.take_length] at *
          have hlt' : ¬ (l.length : Int) < (l.length : Int) := by omega
          clear HZ HC hsl
          go_wp2_with fail
          refine (n_limited _ wr).mono ?_
          rintro e w2 ⟨rfl, rfl⟩
          unfold limV
          dsimp only
          go_wp2_with fail
          refine bodyPost_ret (results_two rfl _ _ _) rfl ?_
          rw [HZ2.out]
          exact ⟨rfl, HB.out⟩
  · rw [if_pos he] at hz
    have he1 : (wordErr word != 0) = true := by simpa using he
    have HZ := hid hz
    clear hz he
    go_wp2_with fail
    refine bodyPost_ret (results_two rfl _ _ _) rfl ?_
    rw [HZ.out]
    exact ⟨rfl, HB1.out⟩

end Go.Proofs.YtemmepgfngkgmaaGreatDoor
