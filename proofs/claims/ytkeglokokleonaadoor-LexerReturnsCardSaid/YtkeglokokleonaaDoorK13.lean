/-
  lexer.Close: the index of the bracket that closes another one, or the error, for all tokens and indices.
-/
import Derived.Test.YtkeglokokleonaaDoorK10
import Derived.Test.YtkeglokokleonaaDoorK12
namespace Go.Proofs.YtkeglokokleonaaDoor
open Go.RowKit

theorem Tryd.underInts : Tryd.prog.underlying 71 = some (.slice 3) := by kernel_rfl
theorem Tryd.infoInt : (Tryd.prog.info? 3).map (fun i => (i.zero, i.size, i.bytes)) = some (some (.int .i64 0), 1, 8) := by kernel_rfl

/-- What bracket answers. -/
def Brk (t : Tok) (k : Int) (b1 b2 : Bool) : Prop :=
  (opens t ≠ 0 → k = (opens t : Int) - 1 ∧ b1 = true ∧ b2 = true) ∧ (opens t = 0 → closes t ≠ 0 → k = (closes t : Int) - 1 ∧ b1 = false ∧ b2 = true) ∧ (opens t = 0 → closes t = 0 → b1 = false ∧ b2 = false)

theorem idx_open (c : UInt8) : Lib.indexByte [40, 91, 123] c = if c = 40 then 0 else if c = 91 then 1 else if c = 123 then 2 else -1 := by
  have := byte_all (fun c => decide (Lib.indexByte [40, 91, 123] c = if c = 40 then 0 else if c = 91 then 1 else if c = 123 then 2 else -1)) (by kernel_rfl) c
  exact of_decide_eq_true this
theorem idx_close (c : UInt8) : Lib.indexByte [41, 93, 125] c = if c = 41 then 0 else if c = 93 then 1 else if c = 125 then 2 else -1 := by
  have := byte_all (fun c => decide (Lib.indexByte [41, 93, 125] c = if c = 41 then 0 else if c = 93 then 1 else if c = 125 then 2 else -1)) (by kernel_rfl) c
  exact of_decide_eq_true this

set_option maxRecDepth 100000 in
set_option maxHeartbeats 4000000 in
theorem p_bracket (t : Tok) (w : World) :
    Calls Tryd.prog 34 #[.agg #[.int .i64 t.kind, .string (str t.text), .int .i64 t.pos]] w fun e w' => ∃ k b1 b2, e = .returned (.tuple #[.int .i64 k, .bool b1, .bool b2]) ∧ Brk t k b1 b2 ∧ Below w.heap.size w w' := by
  obtain ⟨kd, tx, ps⟩ := t
  show Calls Tryd.prog 34 #[.agg #[.int .i64 kd, .string (str tx), .int .i64 ps]] w _
  by_cases hk : kd = 2
  · subst hk
    match tx with
    | [] =>
      have hs : (((str []).size : Int) != 1) = true := rfl
      have hb : Brk ⟨2, [], ps⟩ 0 false false := ⟨by simp [opens], by simp [closes], by simp⟩
      go_enter Tryd.func34, Tryd.ntmps34
      go_wp2_with fail
      go_ret3
      exact ⟨_, _, _, rfl, hb, by go_grown⟩
    | c :: d :: r =>
      have hs : (((str (c :: d :: r)).size : Int) != 1) = true := by rw [str_size]; simp; omega
      have hb : Brk ⟨2, c :: d :: r, ps⟩ 0 false false := ⟨by simp [opens], by simp [closes], by simp⟩
      generalize c :: d :: r = l at *
      go_enter Tryd.func34, Tryd.ntmps34
      go_wp2_with fail
      go_ret3
      exact ⟨_, _, _, rfl, hb, by go_grown⟩
    | [c] =>
      have ho : ∀ w : World, Calls Tryd.prog 59 #[.string (str [40, 91, 123]), .string (str [c])] w fun e w' => e = .returned (.int .i64 (Lib.indexByte [40, 91, 123] c)) ∧ w' = w := fun w => Any.strings_Index_one lay143 (str [40, 91, 123]) c w
      have hc : ∀ w : World, Calls Tryd.prog 59 #[.string (str [41, 93, 125]), .string (str [c])] w fun e w' => e = .returned (.int .i64 (Lib.indexByte [41, 93, 125] c)) ∧ w' = w := fun w => Any.strings_Index_one lay143 (str [41, 93, 125]) c w
      have h1 := idx_open c
      have h2 := idx_close c
      have hsz : (str [c]).size = 1 := rfl
      have hoc : ((Lib.indexByte [40, 91, 123] c ≥ 0) ∧ Brk ⟨2, [c], ps⟩ (Lib.indexByte [40, 91, 123] c) true true) ∨ (¬ (Lib.indexByte [40, 91, 123] c ≥ 0) ∧ Brk ⟨2, [c], ps⟩ (Lib.indexByte [41, 93, 125] c) false (decide (0 ≤ Lib.indexByte [41, 93, 125] c))) := by
        rw [h1, h2]
        unfold Brk
        by_cases q1 : c = 40
        · subst q1; left; simp [opens]
        · by_cases q2 : c = 91
          · subst q2; left; simp [opens]
          · by_cases q3 : c = 123
            · subst q3; left; simp [opens]
            · right
              rw [if_neg q1, if_neg q2, if_neg q3]
              refine ⟨by decide, ?_⟩
              have hop : opens ⟨2, [c], ps⟩ = 0 := by simp [opens, q1, q2, q3]
              by_cases q4 : c = 41
              · subst q4; simp [hop, closes]
              · by_cases q5 : c = 93
                · subst q5; simp [hop, closes]
                · by_cases q6 : c = 125
                  · subst q6; simp [hop, closes]
                  · simp [hop, closes, q4, q5, q6]
      generalize Lib.indexByte [40, 91, 123] c = i at *
      generalize Lib.indexByte [41, 93, 125] c = j at *
      clear h1 h2
      rcases hoc with ⟨h0, hb⟩ | ⟨h0, hb⟩
      · have HB := hid hb
        clear hb
        go_enter Tryd.func34, Tryd.ntmps34
        go_wp2_with fail
        refine (ho _).mono ?_
        rintro e w1 ⟨rfl, rfl⟩
        go_simp
        go_wp2_with fail
        go_ret3
        exact ⟨_, _, _, rfl, HB.out, by go_grown⟩
      · have HB := hid hb
        clear hb
        go_enter Tryd.func34, Tryd.ntmps34
        go_wp2_with fail
        refine (ho _).mono ?_
        rintro e w1 ⟨rfl, rfl⟩
        go_simp
        go_wp2_with fail
        refine (hc _).mono ?_
        rintro e w1 ⟨rfl, rfl⟩
        go_simp
        go_wp2_with fail
        go_ret3
        exact ⟨_, _, _, rfl, HB.out, by go_grown⟩
  · have hb : Brk ⟨kd, tx, ps⟩ 0 false false := ⟨by simp [opens, hk], by simp [closes, hk], by simp⟩
    have HB := hid hb
    clear hb
    go_enter Tryd.func34, Tryd.ntmps34
    go_wp2_with fail
    go_ret3
    exact ⟨_, _, _, rfl, HB.out, by go_grown⟩

/-- append to a longer row of integers. -/
theorem wpList_app1b {P : Program} (wr : World) {ops : Array Oper} {rest : List Oper} {o : Oper} {a : Act} {Q : Exit → Act → World → Prop}
    (hgd : o.guard = none) (s xop : Operand) (t : TypeId) (ho : o.op = .call { callee := .builtin .append, args := #[s, xop], argTypes := #[t, t] })
    (e : TypeId) (ht : P.underlying t = some (.slice e)) (hinfo : (P.info? e).map (fun i => (i.zero, i.size, i.bytes)) = some (some (.int .i64 0), 1, 8))
    (base : Nat) (v : Value) (xs : List Int) (hown : wr.ownsRow base e 1 v xs.length (xs.map (Value.int .i64))) (x : Int) (B : Nat) (hBs : B = wr.heap.size)
    (hs : a.eval s = v) (hx : a.eval xop = .slice (some ⟨B, 0, none⟩) 1 1) (hlen : xs.length ≤ 10000000000000) (hbase : base ≤ wr.heap.size)
    (h : ∀ v' w', w'.ownsRow base e 1 v' (xs ++ [x]).length ((xs ++ [x]).map (Value.int .i64)) → wr.grownBy w' v.ownBlock → (∀ k, v.ownBlock = some k → base ≤ k) → wpList P ops Q rest (a.put o.dst v') w') :
    wpList P ops Q (o :: rest) a (wr.alloc (.cells #[.int .i64 x] e)) := by
  obtain ⟨i, hi, hz, hsz, hby⟩ := info_parts hinfo
  subst hBs
  refine wpList_append_own _ hgd s xop t ho base e i (.int .i64 0) 1 8 ht hi hz hsz hby rfl (by decide) v xs.length _ hs (hown.alloc _) ⟨wr.heap.size, 0, none⟩ 1 1 [.int .i64 x] hx rfl (cell_one_new _ _ _) (by simp [Value.oneCell']) (by unfold maxLen; omega) (by omega) (by simp; omega) ?_
  intro v' w' hown' hgr _
  refine h v' w' ?_ ?_ (fun k hk => (hown.lt k hk).1)
  · simpa using hown'
  · refine ⟨hgr.os, hgr.tape, hgr.output, by have := hgr.size; simp at this; omega, fun k hk hne => ?_⟩
    rw [hgr.block k (by simp; omega) hne]
    exact Below.heap_alloc _ _ _ hk

/-- The open brackets in memory: the last one lies last. -/
def stk (o : List Nat) : List Int := o.reverse.map fun k : Nat => (k : Int) - 1
theorem stk_push (o : List Nat) (k : Nat) : stk (k :: o) = stk o ++ [(k : Int) - 1] := by simp [stk]
theorem stk_len (o : List Nat) : (stk o).length = o.length := by simp [stk]
theorem stk_top (o : List Nat) (k : Nat) : (stk (k :: o))[o.length]?.getD 0 = (k : Int) - 1 := by
  rw [stk_push, List.getElem?_append_right (by rw [stk_len]; exact Nat.le_refl _), stk_len, Nat.sub_self]; rfl

theorem owns_pop {w : World} {base : Nat} {e : TypeId} {g n cap : Nat} {xs : List Value} {x : Value} (h : w.ownsRow base e 1 (.slice (some ⟨g, 0, none⟩) (n + 1) cap) (n + 1) (xs ++ [x])) :
    w.ownsRow base e 1 (.slice (some ⟨g, 0, none⟩) n cap) n xs := by
  have hl : xs.length = n := by have := h.1; simp at this; exact this
  refine ⟨by rw [hl, Nat.mul_one], ?_⟩
  rcases h.2 with ⟨hv, _⟩ | ⟨g', cap', cur, hv, hb, hg, hn, hm, hs, ht⟩
  · simp at hv
  · injection hv with h1 h2 h3
    injection h1 with h1
    injection h1 with h1
    subst h1; subst h3
    refine .inr ⟨g, cap, cur, rfl, hb, hg, by omega, hm, hs, ?_⟩
    rw [Nat.mul_one] at ht ⊢
    have : cur.toList.take n = (cur.toList.take (n + 1)).take n := by rw [List.take_take]; congr 1; omega
    rw [this, ht, ← hl, List.take_left]

theorem closeG_nil (i : Nat) (o : List Nat) : closeG [] i o = (0, 3) := rfl
theorem closeG_cons (t : Tok) (l : List Tok) (i : Nat) (o : List Nat) : closeG (t :: l) i o =
    if opens t ≠ 0 then closeG l (i + 1) (opens t :: o)
    else if closes t ≠ 0 then (match o with
      | [] => (0, 3)
      | k :: o' => if k ≠ closes t then (0, 3) else if o' = [] then ((i : Int), 0) else closeG l (i + 1) o')
    else closeG l (i + 1) o := by rfl

theorem drop_tok {l : List Tok} {k : Nat} (h : k < l.length) : l.drop k = l[k]?.getD default :: l.drop (k + 1) := by
  rw [List.drop_eq_getElem_cons h]; simp [h]

set_option maxRecDepth 100000 in
set_option maxHeartbeats 4000000 in
theorem p_Close (l : List Tok) (at' : Int) (v : Value) (w : World) (hv : ToksR w v l) :
    Calls Tryd.prog 16 #[v, .int .i64 at'] w fun e w' => e = .returned (.tuple #[.int .i64 (closeR l at').1, .int .i64 (closeR l at').2]) ∧ Below w.heap.size w w' := by
  obtain ⟨a, cap, rfl, hcap, hcap2, hln, hc⟩ := hv
  have HCAP := hid hcap
  have HCAP2 := hid hcap2
  have HLN := hid hln
  clear hcap hcap2 hln
  by_cases hn0 : at' < 0
  · have hz : closeR l at' = (0, 2) := by unfold closeR; rw [if_pos (.inl hn0)]
    rw [hz]
    clear hz
    go_enter Tryd.func16, Tryd.ntmps16
    go_wp2_with fail
    go_ret2
    exact ⟨rfl, Below.refl _ _⟩
  · by_cases hnl : (l.length : Int) ≤ at'
    · have hz : closeR l at' = (0, 2) := by unfold closeR; rw [if_pos (.inr hnl)]
      rw [hz]
      clear hz
      go_enter Tryd.func16, Tryd.ntmps16
      go_wp2_with fail
      go_ret2
      exact ⟨rfl, Below.refl _ _⟩
    · obtain ⟨n, rfl⟩ : ∃ n : Nat, at' = n := ⟨at'.toNat, by omega⟩
      have hnl2 : n < l.length := by omega
      have hzz : closeR l n = if opens (l[n]?.getD default) = 0 then (0, 4) else closeG (l.drop n) n [] := by
        unfold closeR; rw [if_neg (by omega)]; rfl
      rw [hzz]
      clear hzz
      have hc0 := hc
      obtain ⟨b, off, rfl, hb, hx⟩ := hc0.tok (by omega)
      obtain ⟨x1, x2, x3⟩ := hx n hnl2
      have hbr := fun w => p_bracket (l[n]?.getD default) w
      by_cases hop : opens (l[n]?.getD default) = 0
      · rw [if_pos hop]
        have hB1 : ∀ k b1 b2, Brk (l[n]?.getD default) k b1 b2 → b1 = false := fun k b1 b2 h => by
          by_cases hcl : closes (l[n]?.getD default) = 0
          · exact (h.2.2 hop hcl).1
          · exact (h.2.1 hop hcl).2.1
        have HB1 := hid hB1
        have HBR := hid hbr
        clear hB1 hbr hop hx
        generalize l[n]?.getD default = t at *
        go_enter Tryd.func16, Tryd.ntmps16
        go_wp2_with fail
        refine (HBR.out _).mono ?_
        rintro e w1 ⟨k, b1, b2, rfl, hk, hBw⟩
        have h1 := HB1.out _ _ _ hk
        subst h1
        clear hk HBR
        go_simp
        go_wp2_with fail
        go_ret2
        exact ⟨rfl, hBw⟩
      · rw [if_neg hop]
        have hB1 : ∀ k b1 b2, Brk (l[n]?.getD default) k b1 b2 → b1 = true ∧ b2 = true := fun k b1 b2 h => (h.1 hop).2
        have HB1 := hid hB1
        have HBR := hid hbr
        have HOP := hid hop
        obtain ⟨z, hz⟩ : ∃ z, z = closeG (l.drop n) n [] := ⟨_, rfl⟩
        rw [← hz]
        have HZ := hid hz.symm
        clear hz
        clear hB1 hbr hop hx
        generalize htt : l[n]?.getD default = t at *
        have HTT := hid htt
        clear htt
        go_enter Tryd.func16, Tryd.ntmps16
        go_wp2_with fail
        refine (HBR.out _).mono ?_
        rintro e w1 ⟨k, b1, b2, rfl, hk, hBw⟩
        obtain ⟨h1, h2⟩ := HB1.out _ _ _ hk
        subst h1; subst h2
        clear hk HBR HB1 x1 x2 x3
        go_simp
        go_wp2_with fail
        go_loopw [9, 10] (fun o i wr => ∃ (k : Nat) (st : List Nat), k ≤ l.length ∧ st.length ≤ k ∧ i = .int .i64 k ∧ wr.ownsRow w.heap.size 3 1 o (stk st).length ((stk st).map (Value.int .i64)) ∧
          Hid (st = [] → k = n) ∧ Hid (closeG (l.drop k) k st = z) ∧ Below w.heap.size w wr) (fun _ i _ => l.length - (intOf i).toNat)
        case atStart => exact ⟨n, [], by omega, Nat.zero_le _, rfl, World.ownsRow_nil _ _ _ _, fun _ => rfl, HZ, hBw⟩
        case round =>
          clear HZ hBw
          obtain ⟨k, st, hk, hst, rfl, hown, HST, HZ, hB⟩ := hrel
          by_cases hkt : k < l.length
          · obtain ⟨b2, off2, hbo, hb2, hx⟩ := (hc.below hB).tok (by omega)
            obtain ⟨rfl, rfl⟩ : b2 = b ∧ off2 = off := by injection hbo with h; injection h with h1 h2; exact ⟨h1.symm, h2.symm⟩
            obtain ⟨x1, x2, x3⟩ := hx k hkt
            have HD := hid (drop_tok hkt)
            have HTK : Hid (k = n → l[k]?.getD default = t) := fun h => by rw [h]; exact HTT.out
            generalize l[k]?.getD default = tt at *
            have HBR := hid (fun w => p_bracket tt w)
            have HW : Hid (RowKit.wrap64 ((k : Int) + 1) = ((k + 1 : Nat) : Int)) := by
              show _ = _; have := HLN.out; rw [wrapS _ (by omega)]; omega
            clear hx hbo
            by_cases ho : opens tt = 0
            · by_cases hcl : closes tt = 0
              · have HN : Hid (closeG (l.drop (k + 1)) (k + 1) st = z) := by
                  show _ = _; rw [← HZ.out, HD.out, closeG_cons, if_neg (by simp [ho]), if_neg (by simp [hcl])]
                have HB1 : Hid (∀ k b1 b2, Brk tt k b1 b2 → b1 = false ∧ b2 = false) := fun k b1 b2 h => h.2.2 ho hcl
                have HNE : Hid (st = [] → k + 1 = n) := fun h => by
                  exfalso
                  have h1 := HST.out h
                  have h2 := HTK.out h1
                  rw [h2] at ho
                  exact HOP.out ho
                clear HZ HST HTK ho hcl HD
                go_wp2_with fail
                refine (HBR.out _).mono ?_
                rintro e w2 ⟨kk, b1, b2, rfl, hbk, hB2⟩
                obtain ⟨h1, h2⟩ := HB1.out _ _ _ hbk
                subst h1; subst h2
                clear hbk HBR HB1 x1 x2 x3
                have hown2 := owns_below hown hB2
                have hBB := hB.trans (hB2.mono hB.size)
                clear hB2
                go_simp
                go_wp2_with fail
                rw [HW.out]
                go_roundw
                case rel => exact ⟨k + 1, st, by omega, by omega, rfl, hown2, HNE, HN, hBB⟩
                case measure => simp [intOf]; omega
              · obtain ⟨q, st', rfl⟩ : ∃ q st', st = q :: st' := by
                  cases st with
                  | nil =>
                    exfalso
                    have h1 := HST.out rfl
                    have h2 := HTK.out h1
                    rw [h2] at ho
                    exact HOP.out ho
                  | cons q st' => exact ⟨q, st', rfl⟩
                have HZ1 : Hid (q ≠ closes tt → z = (0, 3)) := fun h => by
                  rw [← HZ.out, HD.out, closeG_cons, if_neg (by simp [ho]), if_pos hcl]; simp [h]
                have HZ2 : Hid (q = closes tt → st' = [] → z = ((k : Int), 0)) := fun h h2 => by
                  rw [← HZ.out, HD.out, closeG_cons, if_neg (by simp [ho]), if_pos hcl]; simp [h, h2]
                have HZ3 : Hid (q = closes tt → st' ≠ [] → closeG (l.drop (k + 1)) (k + 1) st' = z) := fun h h2 => by
                  rw [← HZ.out, HD.out, closeG_cons, if_neg (by simp [ho]), if_pos hcl]; simp [h, h2]
                have HB1 : Hid (∀ k b1 b2, Brk tt k b1 b2 → k = (closes tt : Int) - 1 ∧ b1 = false ∧ b2 = true) := fun k b1 b2 h => h.2.1 ho hcl
                clear HZ HST HTK ho hcl HD
                go_wp2_with fail
                refine (HBR.out _).mono ?_
                rintro e w2 ⟨kk, b1, b2, rfl, hbk, hB2⟩
                obtain ⟨h0, h1, h2⟩ := HB1.out _ _ _ hbk
                subst h0; subst h1; subst h2
                clear hbk HBR HB1 x1 x2 x3
                have hown2 := owns_below hown hB2
                have hBB := hB.trans (hB2.mono hB.size)
                clear hB2 hown hB
                rw [stk_len, List.length_cons] at hown2
                obtain ⟨g, cp, rfl, hg1, hg2⟩ := owns_some hown2 (by omega)
                have htop := owns_int hown2 st'.length (by omega)
                rw [stk_top] at htop
                have hpop : w2.ownsRow w.heap.size 3 1 (.slice (some ⟨g, 0, none⟩) st'.length cp) (stk st').length ((stk st').map (Value.int .i64)) := by
                  rw [stk_push, List.map_append] at hown2
                  rw [stk_len]
                  exact owns_pop hown2
                have HPOP := hid hpop
                have hcp : st'.length + 1 ≤ cp := by
                  rcases hown2.2 with ⟨hv, _⟩ | ⟨g', cap', cur, hv, _, _, hn, _⟩
                  · simp at hv
                  · injection hv with _ _ h3; omega
                have HNIL : Hid (st' = [] ↔ st'.length = 0) := by show _ ↔ _; rw [List.length_eq_zero_iff]
                have hstm : st'.length + 1 ≤ k := hst
                have HLEN := hid hstm
                have HM1 : Hid (RowKit.wrap64 (((st'.length + 1 : Nat) : Int) - 1) = (st'.length : Int)) := by
                  show _ = _; have := HLN.out; rw [wrapS _ (by omega)]; omega
                have hmb : (st'.length : Int) ≤ 4398046511104 := by have := HLN.out; omega
                clear hown2 hpop hstm hst
                generalize closes tt = cl at *
                by_cases hq : q = cl
                · subst hq
                  by_cases hs0 : st' = []
                  · have hz := HZ2.out rfl hs0
                    subst hz
                    have hm0 := HNIL.out.1 hs0
                    have HBB := hid hBB
                    clear HZ1 HZ2 HZ3 hBB HM1 hmb
                    rw [hm0] at htop hcp ⊢
                    clear hm0 hs0
                    go_simp
                    go_wp2_with fail
                    go_ret2
                    exact ⟨rfl, HBB.out⟩
                  · have hz := HZ3.out rfl hs0
                    have hm0 : ¬ st'.length = 0 := fun h => hs0 (HNIL.out.2 h)
                    go_simp
                    go_wp2_with fail
                    rw [HW.out]
                    go_roundw
                    case rel => exact ⟨k + 1, st', by omega, by have := HLEN.out; omega, rfl, HPOP.out, fun h => absurd h hs0, hz, hBB⟩
                    case measure => simp [intOf]; omega
                · have hz := HZ1.out hq
                  subst hz
                  have HBB := hid hBB
                  have hne : ((q : Int) - 1 != (cl : Int) - 1) = true := by simp; omega
                  clear HZ1 HZ2 HZ3 hBB
                  go_simp
                  go_wp2_with fail
                  go_ret2
                  exact ⟨rfl, HBB.out⟩
            · have HN : Hid (closeG (l.drop (k + 1)) (k + 1) (opens tt :: st) = z) := by
                show _ = _; rw [← HZ.out, HD.out, closeG_cons, if_pos ho]
              have HB1 : Hid (∀ k b1 b2, Brk tt k b1 b2 → k = (opens tt : Int) - 1 ∧ b1 = true ∧ b2 = true) := fun k b1 b2 h => h.1 ho
              clear HZ HST HTK ho HD
              go_wp2_with fail
              refine (HBR.out _).mono ?_
              rintro e w2 ⟨kk, b1, b2, rfl, hbk, hB2⟩
              obtain ⟨h0, h1, h2⟩ := HB1.out _ _ _ hbk
              subst h0; subst h1; subst h2
              clear hbk HBR HB1 x1 x2 x3
              have hown2 := owns_below hown hB2
              have hBB := hB.trans (hB2.mono hB.size)
              have hs2 := hBB.size
              clear hB2
              have HSL : Hid ((stk st).length ≤ 10000000000000) := by show _ ≤ _; have := HLN.out; rw [stk_len]; omega
              go_simp
              go_wp2_with (at_builtin; refine wpList_app1b w2 rfl _ _ 71 rfl 3 Tryd.underInts Tryd.infoInt w.heap.size _ (stk st) hown2 ((opens tt : Int) - 1) w2.heap.size rfl rfl rfl HSL.out hs2 ?_; intro v' w3 hown3 hgr3 hbk)
              rw [HW.out]
              go_roundw
              case rel => exact ⟨k + 1, opens tt :: st, by omega, by simp; omega, rfl, by rw [stk_push]; exact hown3, fun h => absurd h (by simp), HN, below_grown hBB hs2 hgr3 hbk (Nat.le_refl _)⟩
              case measure => simp [intOf]; omega
          · have hkl : k = l.length := by omega
            have hz : z = (0, 3) := by rw [← HZ.out, hkl, List.drop_length]; rfl
            subst hz
            clear HZ
            go_wp2_with fail
            go_ret2
            exact ⟨rfl, hB⟩

end Go.Proofs.YtkeglokokleonaaDoor
