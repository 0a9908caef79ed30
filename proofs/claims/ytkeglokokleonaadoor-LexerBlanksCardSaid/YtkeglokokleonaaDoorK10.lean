/-
  The scanner's next, and lexer.Scan: its tokens, or the offset and the error, for every text.
-/
import Derived.Test.YtkeglokokleonaaDoorK6
import Derived.Test.YtkeglokokleonaaDoorK7
import Derived.Test.YtkeglokokleonaaDoorK8
namespace Go.Proofs.YtkeglokokleonaaDoor
open Go.RowKit

theorem c_Index (cs : List UInt8) (u : UInt8) (b : Bool) (h : cs.contains u = b) (w : World) :
    Calls Tryd.prog 50 #[.string (str cs), .int .u8 u.toNat] w fun e w' => ∃ i : Int, e = .returned (.int .i64 i) ∧ decide (0 ≤ i) = b ∧ w' = w := by
  refine (Any.strings_IndexByte lay137 (str cs) u.toNat w).mono ?_
  rintro e w' ⟨h1, h2⟩
  refine ⟨_, h1, ?_, h2⟩
  rw [← h, ← idx_ge]
  simp [str_data]

theorem Took.from {B b : Nat} {s : List UInt8} {p : Nat} {v : Value} {l : List Tok} {k : Int} {t : List UInt8} {er : Int} {w W : World} {e : Ending} {w' : World} (h : Took B b s p v l k t er W e w') (hB : Below B w W) : Took B b s p v l k t er w e w' :=
  ⟨h.1, hB.trans h.2.1, h.2.2.1, h.2.2.2⟩

theorem tok_one (c : UInt8) (r : List UInt8) : (isLet c = true → kindOf c = 0 ∧ runOf (c :: r) = (c :: r).takeWhile isLet) ∧ (isLet c = false → isDig c = true → kindOf c = 1 ∧ runOf (c :: r) = (c :: r).takeWhile isDig) ∧
    (isLet c = false → isDig c = false → isSgn c = true → kindOf c = 2 ∧ runOf (c :: r) = (c :: r).take 1) ∧ (isLet c = false → isDig c = false → isSgn c = false → kindOf c = 4) := by
  refine ⟨fun h => ?_, fun h h2 => ?_, fun h h2 h3 => ?_, fun h h2 h3 => ?_⟩ <;> simp [kindOf, runOf_cons, *]

theorem idx_cls0 (w : World) : (Instr.index 89 clsV (.int .i64 0)).run Tryd.prog w = .ok (.agg #[.string (str letters), .int .i64 0, .func (.func 70) #[] #[], .bool true]) w := by kernel_rfl
theorem idx_cls1 (w : World) : (Instr.index 89 clsV (.int .i64 1)).run Tryd.prog w = .ok (.agg #[.string (str figures), .int .i64 1, .func (.func 71) #[] #[], .bool true]) w := by kernel_rfl
theorem idx_cls2 (w : World) : (Instr.index 89 clsV (.int .i64 2)).run Tryd.prog w = .ok (.agg #[.string (str marks), .int .i64 2, .func (.func 72) #[] #[], .bool false]) w := by kernel_rfl

set_option maxRecDepth 100000 in
set_option maxHeartbeats 4000000 in
theorem p_next (B b : Nat) (s : List UInt8) (p : Nat) (v : Value) (l : List Tok) (w : World) (h : Scr w B b s p v l) (hp : p < s.length) (hs : s.length ≤ 4096) (hl : l.length ≤ p) (c : UInt8) (r : List UInt8) (hd : s.drop p = c :: r) :
    Calls Tryd.prog 27 #[.pointer (some ⟨b, 0, none⟩)] w (Took B b s p v l (kindOf c) (runOf (c :: r)) (tokErr (kindOf c) (runOf (c :: r))) w) := by
  have HT := hid (tok_one c r)
  have hsz := str_size s
  have hpt : p < (str s).size := by rw [hsz]; omega
  have hc : (str s)[p]'hpt = c := by
    have := str_drop hpt
    rw [hd] at this
    injection this with h1 _
    exact h1.symm
  have HL : ∀ {b1}, isLet c = b1 → Hid (∀ w, Calls Tryd.prog 50 #[.string (str letters), .int .u8 ((str s)[p]'hpt).toNat] w fun e w' => ∃ i : Int, e = .returned (.int .i64 i) ∧ decide (0 ≤ i) = b1 ∧ w' = w) := fun e w => by rw [hc]; exact c_Index _ _ _ ((let_has c).trans e) w
  have HD : ∀ {b1}, isDig c = b1 → Hid (∀ w, Calls Tryd.prog 50 #[.string (str figures), .int .u8 ((str s)[p]'hpt).toNat] w fun e w' => ∃ i : Int, e = .returned (.int .i64 i) ∧ decide (0 ≤ i) = b1 ∧ w' = w) := fun e w => by rw [hc]; exact c_Index _ _ _ ((dig_has c).trans e) w
  have HG : ∀ {b1}, isSgn c = b1 → Hid (∀ w, Calls Tryd.prog 50 #[.string (str marks), .int .u8 ((str s)[p]'hpt).toNat] w fun e w' => ∃ i : Int, e = .returned (.int .i64 i) ∧ decide (0 ≤ i) = b1 ∧ w' = w) := fun e w => by rw [hc]; exact c_Index _ _ _ e w
  have HS := hid h
  have HP := hid (And.intro hp (And.intro hs hl))
  obtain ⟨c0, c1, c2, hbl, _, _⟩ := h.cells
  have hpi : (p : Int) < ((str s).size : Int) := by omega
  clear h hp hs hl hc hsz
  go_enter Tryd.func27, Tryd.ntmps27
  go_wp2_with fail
  refine (p_classes _).mono ?_
  rintro e w0 ⟨rfl, hB0⟩
  go_simp
  go_wp2_with fail
  go_loopw [6] (fun i wr => ∃ k : Nat, k ≤ 3 ∧ i = .int .i64 k ∧ (0 < k → isLet c = false) ∧ (1 < k → isDig c = false) ∧ (2 < k → isSgn c = false) ∧ Below w.heap.size w wr) (fun i _ => 3 - (intOf i).toNat)
  case atStart => exact ⟨0, by omega, rfl, by omega, by omega, by omega, hB0⟩
  case round =>
    clear hB0
    obtain ⟨k, hk, rfl, k0, k1, k2, hB⟩ := hrel
    obtain ⟨r1, r2⟩ := bcellB hB
    have hcc0 := (r1 b 0 hbl).trans c0
    have hcc1 := (r1 b 1 hbl).trans c1
    have hS1 := hid (HS.out.below hB)
    have hbl1 : b < wr.heap.size := by have := hB.size; omega
    clear c0 c1 c2 r1 r2
    match k, hk with
    | 0, _ =>
      clear k0 k1 k2
      have i0 := idx_cls0
      have hB2 : Below w.heap.size w (wr.alloc (.cells #[.string (str letters), .int .i64 0, .func (.func 70) #[] #[], .bool true] 88)).drew := (hB.alloc hB.size _).drew
      cases hx : isLet c with
      | true =>
        have hq := HL hx
        have hz := hid (HT.out.1 hx)
        go_wp2_with fail
        let S : World → Prop := fun w' => w' = (wr.alloc (.cells #[.string (str letters), .int .i64 0, .func (.func 70) #[] #[], .bool true] 88)).drew
        (refine wp_region_text 11 [0,1,2,3,4,5,6,7,8,9,10] S (by kernel_rfl) (by kernel_rfl) (by intro _ _ d _ _ h; cases d <;> exact h) ?hS ?_; rotate_left; simp only [List.map_cons, List.map_nil, List.getD_cons_zero, List.getD_cons_succ, List.drop_succ_cons, List.drop_zero])
        case hS => rfl
        (repeat (refine' wpSeq_take rfl _ (by rfl) ?_ ?_; rotate_left; focus (intro w' hS; (try dsimp only at hS); subst hS; go_simp; (first | done | with_reducible rfl)); (try simp only [Act.put, List.setIfInBounds_toArray, List.set_cons_zero, List.set_cons_succ])))
        refine wpSeq_nil ?_
        clear S
        go_wp2_with fail
        refine (hq.out _).mono ?_
        rintro e w2 ⟨i, rfl, hi, rfl⟩
        go_simp
        go_wp2_with fail
        have hS2 := HS.out.below hB2
        obtain ⟨p1, p2, p3⟩ := HP.out
        refine (p_takeW B b s p v l _ hS2 p1 p2 p3).mono ?_
        intro e w3 hTk
        have hBB := hB2.mono HS.out.size
        rw [hd, ← hz.out.2] at hTk
        have hTk' : Took B b s p v l (kindOf c) (runOf (c :: r)) (tokErr (kindOf c) (runOf (c :: r))) w e w3 := by
          rw [hz.out.1]
          exact hTk.from hBB
        clear hTk hS2 p1 p2 p3 hBB hi hz
        obtain ⟨rfl, t1, t2, t3⟩ := hTk'
        have H1 := hid t1
        have H2 := hid t2
        have H3 := hid t3
        clear t1 t2 t3
        go_simp
        go_wp2_with fail
        go_ret
        exact ⟨rfl, H1.out, H2.out, H3.out⟩
      | false =>
        have hq := HL hx
        go_wp2_with fail
        let S : World → Prop := fun w' => w' = (wr.alloc (.cells #[.string (str letters), .int .i64 0, .func (.func 70) #[] #[], .bool true] 88)).drew
        (refine wp_region_text 11 [0,1,2,3,4,5,6,7,8,9,10] S (by kernel_rfl) (by kernel_rfl) (by intro _ _ d _ _ h; cases d <;> exact h) ?hS ?_; rotate_left; simp only [List.map_cons, List.map_nil, List.getD_cons_zero, List.getD_cons_succ, List.drop_succ_cons, List.drop_zero])
        case hS => rfl
        (repeat (refine' wpSeq_take rfl _ (by rfl) ?_ ?_; rotate_left; focus (intro w' hS; (try dsimp only at hS); subst hS; go_simp; (first | done | with_reducible rfl)); (try simp only [Act.put, List.setIfInBounds_toArray, List.set_cons_zero, List.set_cons_succ])))
        refine wpSeq_nil ?_
        clear S
        go_wp2_with fail
        refine (hq.out _).mono ?_
        rintro e w2 ⟨i, rfl, hi, rfl⟩
        go_simp
        go_wp2_with fail
        go_roundw
        case rel => exact ⟨1, by omega, rfl, fun _ => trivial, by omega, by omega, hB2⟩
        case measure => simp [intOf]
    | 1, _ =>
      have a0 := k0 (by omega)
      clear k0 k1 k2
      have i0 := idx_cls1
      have hB2 : Below w.heap.size w (wr.alloc (.cells #[.string (str figures), .int .i64 1, .func (.func 71) #[] #[], .bool true] 88)).drew := (hB.alloc hB.size _).drew
      cases hx : isDig c with
      | true =>
        have hq := HD hx
        have hz := hid (HT.out.2.1 a0 hx)
        go_wp2_with fail
        let S : World → Prop := fun w' => w' = (wr.alloc (.cells #[.string (str figures), .int .i64 1, .func (.func 71) #[] #[], .bool true] 88)).drew
        (refine wp_region_text 11 [0,1,2,3,4,5,6,7,8,9,10] S (by kernel_rfl) (by kernel_rfl) (by intro _ _ d _ _ h; cases d <;> exact h) ?hS ?_; rotate_left; simp only [List.map_cons, List.map_nil, List.getD_cons_zero, List.getD_cons_succ, List.drop_succ_cons, List.drop_zero])
        case hS => rfl
        (repeat (refine' wpSeq_take rfl _ (by rfl) ?_ ?_; rotate_left; focus (intro w' hS; (try dsimp only at hS); subst hS; go_simp; (first | done | with_reducible rfl)); (try simp only [Act.put, List.setIfInBounds_toArray, List.set_cons_zero, List.set_cons_succ])))
        refine wpSeq_nil ?_
        clear S
        go_wp2_with fail
        refine (hq.out _).mono ?_
        rintro e w2 ⟨i, rfl, hi, rfl⟩
        go_simp
        go_wp2_with fail
        have hS2 := HS.out.below hB2
        obtain ⟨p1, p2, p3⟩ := HP.out
        refine (p_takeN B b s p v l _ hS2 p1 p2 p3).mono ?_
        intro e w3 hTk
        have hBB := hB2.mono HS.out.size
        rw [hd, ← hz.out.2] at hTk
        have hTk' : Took B b s p v l (kindOf c) (runOf (c :: r)) (tokErr (kindOf c) (runOf (c :: r))) w e w3 := by
          rw [hz.out.1]
          exact hTk.from hBB
        clear hTk hS2 p1 p2 p3 hBB hi hz
        obtain ⟨rfl, t1, t2, t3⟩ := hTk'
        have H1 := hid t1
        have H2 := hid t2
        have H3 := hid t3
        clear t1 t2 t3
        go_simp
        go_wp2_with fail
        go_ret
        exact ⟨rfl, H1.out, H2.out, H3.out⟩
      | false =>
        have hq := HD hx
        go_wp2_with fail
        let S : World → Prop := fun w' => w' = (wr.alloc (.cells #[.string (str figures), .int .i64 1, .func (.func 71) #[] #[], .bool true] 88)).drew
        (refine wp_region_text 11 [0,1,2,3,4,5,6,7,8,9,10] S (by kernel_rfl) (by kernel_rfl) (by intro _ _ d _ _ h; cases d <;> exact h) ?hS ?_; rotate_left; simp only [List.map_cons, List.map_nil, List.getD_cons_zero, List.getD_cons_succ, List.drop_succ_cons, List.drop_zero])
        case hS => rfl
        (repeat (refine' wpSeq_take rfl _ (by rfl) ?_ ?_; rotate_left; focus (intro w' hS; (try dsimp only at hS); subst hS; go_simp; (first | done | with_reducible rfl)); (try simp only [Act.put, List.setIfInBounds_toArray, List.set_cons_zero, List.set_cons_succ])))
        refine wpSeq_nil ?_
        clear S
        go_wp2_with fail
        refine (hq.out _).mono ?_
        rintro e w2 ⟨i, rfl, hi, rfl⟩
        go_simp
        go_wp2_with fail
        go_roundw
        case rel => exact ⟨2, by omega, rfl, fun _ => a0, fun _ => trivial, by omega, hB2⟩
        case measure => simp [intOf]
    | 2, _ =>
      have a0 := k0 (by omega)
      have a1 := k1 (by omega)
      clear k0 k1 k2
      have i0 := idx_cls2
      have hB2 : Below w.heap.size w (wr.alloc (.cells #[.string (str marks), .int .i64 2, .func (.func 72) #[] #[], .bool false] 88)).drew := (hB.alloc hB.size _).drew
      cases hx : isSgn c with
      | true =>
        have hq := HG hx
        have hz := hid (HT.out.2.2.1 a0 a1 hx)
        go_wp2_with fail
        let S : World → Prop := fun w' => w' = (wr.alloc (.cells #[.string (str marks), .int .i64 2, .func (.func 72) #[] #[], .bool false] 88)).drew
        (refine wp_region_text 11 [0,1,2,3,4,5,6,7,8,9,10] S (by kernel_rfl) (by kernel_rfl) (by intro _ _ d _ _ h; cases d <;> exact h) ?hS ?_; rotate_left; simp only [List.map_cons, List.map_nil, List.getD_cons_zero, List.getD_cons_succ, List.drop_succ_cons, List.drop_zero])
        case hS => rfl
        (repeat (refine' wpSeq_take rfl _ (by rfl) ?_ ?_; rotate_left; focus (intro w' hS; (try dsimp only at hS); subst hS; go_simp; (first | done | with_reducible rfl)); (try simp only [Act.put, List.setIfInBounds_toArray, List.set_cons_zero, List.set_cons_succ])))
        refine wpSeq_nil ?_
        clear S
        go_wp2_with fail
        refine (hq.out _).mono ?_
        rintro e w2 ⟨i, rfl, hi, rfl⟩
        go_simp
        go_wp2_with fail
        have hS2 := HS.out.below hB2
        obtain ⟨p1, p2, p3⟩ := HP.out
        refine (p_takeS B b s p v l _ hS2 p1 p2 p3).mono ?_
        intro e w3 hTk
        have hBB := hB2.mono HS.out.size
        rw [hd, ← hz.out.2] at hTk
        have hTk' : Took B b s p v l (kindOf c) (runOf (c :: r)) (tokErr (kindOf c) (runOf (c :: r))) w e w3 := by
          rw [hz.out.1]
          exact hTk.from hBB
        clear hTk hS2 p1 p2 p3 hBB hi hz
        obtain ⟨rfl, t1, t2, t3⟩ := hTk'
        have H1 := hid t1
        have H2 := hid t2
        have H3 := hid t3
        clear t1 t2 t3
        go_simp
        go_wp2_with fail
        go_ret
        exact ⟨rfl, H1.out, H2.out, H3.out⟩
      | false =>
        have hq := HG hx
        go_wp2_with fail
        let S : World → Prop := fun w' => w' = (wr.alloc (.cells #[.string (str marks), .int .i64 2, .func (.func 72) #[] #[], .bool false] 88)).drew
        (refine wp_region_text 11 [0,1,2,3,4,5,6,7,8,9,10] S (by kernel_rfl) (by kernel_rfl) (by intro _ _ d _ _ h; cases d <;> exact h) ?hS ?_; rotate_left; simp only [List.map_cons, List.map_nil, List.getD_cons_zero, List.getD_cons_succ, List.drop_succ_cons, List.drop_zero])
        case hS => rfl
        (repeat (refine' wpSeq_take rfl _ (by rfl) ?_ ?_; rotate_left; focus (intro w' hS; (try dsimp only at hS); subst hS; go_simp; (first | done | with_reducible rfl)); (try simp only [Act.put, List.setIfInBounds_toArray, List.set_cons_zero, List.set_cons_succ])))
        refine wpSeq_nil ?_
        clear S
        go_wp2_with fail
        refine (hq.out _).mono ?_
        rintro e w2 ⟨i, rfl, hi, rfl⟩
        go_simp
        go_wp2_with fail
        go_roundw
        case rel => exact ⟨3, by omega, rfl, fun _ => a0, fun _ => a1, fun _ => trivial, hB2⟩
        case measure => simp [intOf]
    | 3, _ =>
      have a0 := k0 (by omega)
      have a1 := k1 (by omega)
      have a2 := k2 (by omega)
      have hz := hid (HT.out.2.2.2 a0 a1 a2)
      clear k0 k1 k2
      go_wp2_with fail
      go_ret
      rw [hz.out]
      exact ⟨rfl, hB.mono HS.out.size, fun _ => hS1.out, fun h => absurd h (by simp [tokErr])⟩

end Go.Proofs.YtkeglokokleonaaDoor
