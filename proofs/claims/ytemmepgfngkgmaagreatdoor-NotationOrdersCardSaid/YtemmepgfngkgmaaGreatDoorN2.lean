/-
  Natural numbers: contracts of integer.Small, lexer.Natural and of the reference's Natural.
-/
import Derived.Test.YtemmepgfngkgmaaGreatDoorNL
import Derived.Test.YtemmepgfngkgmaaGreatDoorKA
import Derived.Test.YtemmepgfngkgmaaGreatDoorN1
namespace Go.Proofs.YtemmepgfngkgmaaGreatDoor
open Go.RowKit
set_option linter.unusedVariables false
set_option linter.unusedSimpArgs false

def numFrom (a : Nat) (l : List UInt8) : Nat := l.foldl (fun n c => 10 * n + (c.toNat - 48)) a
theorem numFrom_ge : ∀ (l : List UInt8) (a : Nat), a ≤ numFrom a l
  | [], a => Nat.le_refl _
  | c :: l, a => by
    have := numFrom_ge l (10 * a + (c.toNat - 48))
    show a ≤ numFrom (10 * a + (c.toNat - 48)) l
    omega
theorem numOf_snoc (l : List UInt8) (k : Nat) (hk : k < l.length) : numOf (l.take (k + 1)) = 10 * numOf (l.take k) + (l[k].toNat - 48) := by
  unfold numOf
  rw [List.take_succ_eq_append_getElem hk, List.foldl_append]
  rfl
theorem numOf_take (l : List UInt8) (k : Nat) : numOf (l.take k) ≤ numOf l := by
  have := numFrom_ge (l.drop k) (numOf (l.take k))
  have e : numOf l = numFrom (numOf (l.take k)) (l.drop k) := by
    unfold numFrom
    conv => lhs; rw [← List.take_append_drop k l]
    unfold numOf
    rw [List.foldl_append]
  omega
theorem digs {c : UInt8} (h : isDig c = true) : 48 ≤ c.toNat ∧ c.toNat ≤ 57 := by
  unfold isDig at h
  simpa using h
theorem parse_dig : ∀ (l : List UInt8) (a : Nat), l.all isDig = true → a < 18446744073709551616 →
    Lib.parseUint10 a l = if numFrom a l < 18446744073709551616 then .ok (numFrom a l) else .range
  | [], a, _, ha => by
    show Lib.NumEnd.ok a = if a < _ then _ else _
    rw [if_pos ha]; rfl
  | c :: l, a, hd, ha => by
    simp only [List.all_cons, Bool.and_eq_true] at hd
    have hc := digs hd.1
    have e : numFrom a (c :: l) = numFrom (10 * a + (c.toNat - 48)) l := rfl
    have hg := numFrom_ge l (10 * a + (c.toNat - 48))
    rw [e]
    unfold Lib.parseUint10
    rw [if_pos hc]
    by_cases h1 : 1844674407370955162 ≤ a
    · rw [if_pos h1, if_neg (by omega)]
    · rw [if_neg h1]
      by_cases h2 : 18446744073709551616 ≤ a * 10 + (c.toNat - 48)
      · rw [if_pos h2, if_neg (by omega)]
      · rw [if_neg h2, show a * 10 + (c.toNat - 48) = 10 * a + (c.toNat - 48) by omega]
        exact parse_dig l _ hd.2 (by omega)
theorem atoi_dig {l : List UInt8} (h0 : l ≠ []) (hd : l.all isDig = true) : Lib.atoiAll l = if numOf l < 9223372036854775808 then .ok (numOf l) else .range := by
  match l, h0 with
  | c :: r, _ =>
    have hc := digs (by simp only [List.all_cons, Bool.and_eq_true] at hd; exact hd.1 : isDig c = true)
    have hp := parse_dig (c :: r) 0 hd (by decide)
    have e : numFrom 0 (c :: r) = numOf (c :: r) := rfl
    unfold Lib.atoiAll
    dsimp only
    rw [if_neg (by omega)]
    unfold Lib.parseMag
    rw [if_neg (by simp), hp, e]
    generalize numOf (c :: r) = v
    by_cases h1 : v < 18446744073709551616
    · rw [if_pos h1]
      dsimp only
      by_cases h2 : v < 9223372036854775808
      · rw [if_neg (by omega), if_neg (by omega), if_pos h2, if_neg (by omega)]
      · rw [if_pos ⟨by omega, by omega⟩, if_neg h2]
    · rw [if_neg h1, if_neg (by omega)]

theorem numFrom_pow : ∀ (l : List UInt8) (a : Nat), a * 10 ^ l.length ≤ numFrom a l
  | [], a => by show a * 10 ^ 0 ≤ a; omega
  | c :: l, a => by
    have h := numFrom_pow l (10 * a + (c.toNat - 48))
    refine Nat.le_trans ?_ h
    rw [List.length_cons, Nat.pow_succ, ← Nat.mul_assoc, Nat.mul_right_comm]
    exact Nat.mul_le_mul_right _ (by omega)
theorem nat_long {l : List UInt8} (hn : natB l = true) (h : 24 < l.length) : 1099511627776 < numOf l := by
  obtain ⟨d0, d1, d2⟩ := nat_digits hn
  match l, d0 with
  | c :: r, _ =>
    have hc := digs (by simp only [List.all_cons, Bool.and_eq_true] at d1; exact d1.1 : isDig c = true)
    have hne : c ≠ 48 := by
      rcases d2 with d2 | d2
      · simpa using d2
      · omega
    have hc1 : 1 ≤ c.toNat - 48 := by
      have : c.toNat ≠ 48 := fun e => hne (by rw [← UInt8.toNat_inj]; exact e)
      omega
    have e : numOf (c :: r) = numFrom (10 * 0 + (c.toNat - 48)) r := rfl
    have h1 := numFrom_pow r (10 * 0 + (c.toNat - 48))
    have h2 : 10 ^ 24 ≤ 10 ^ r.length := Nat.pow_le_pow_right (by decide) (by simp at h; omega)
    have h3 : 1 * 10 ^ r.length ≤ (10 * 0 + (c.toNat - 48)) * 10 ^ r.length := Nat.mul_le_mul_right _ (by omega)
    rw [e]
    have h4 : (1099511627776 : Nat) < 10 ^ 24 := by decide
    omega

/-- What the program's texts need of the variables: the library's error for numbers out of range, its table of powers of ten. -/
structure Env (w : World) : Prop where
  rng : ∃ ev, w.cell? ⟨7, 0, none⟩ = some ev ∧ (ev = .nilIface ∨ ∃ te pe, ev = .iface te pe)
  tab : Lib.TabIs Tryz.prog w "internal/strconv.uint64pow10" .u64 Lib.pow10Tab
theorem cell_lt {w : World} {a : Addr} {v : Value} (h : w.cell? a = some v) : a.block < w.heap.size := by
  rcases Nat.lt_or_ge a.block w.heap.size with h' | h'
  · exact h'
  · simp [World.cell?, Array.getElem?_eq_none h'] at h
theorem pow_named : ∃ g, Tryz.prog.globalNamed "internal/strconv.uint64pow10" = some g := ⟨0, by kernel_rfl⟩
theorem Env.grown {w w' : World} {b : Nat} (h : Env w) (hg : w.grownBy w' (some b)) (hb : ∀ v, w.cell? ⟨7, 0, none⟩ = some v → b ≠ 7) (hb2 : ∀ g, Tryz.prog.globalNamed "internal/strconv.uint64pow10" = some g → b ≠ g) : Env w' := by
  obtain ⟨⟨ev, h1, h2⟩, h3⟩ := h
  have hl := cell_lt h1
  refine ⟨⟨ev, ?_, h2⟩, ?_⟩
  · rw [World.cell?_of_block (hg.block _ hl (by have := hb ev h1; simpa using this.symm))]; exact h1
  · unfold Lib.TabIs World.var? at h3 ⊢
    obtain ⟨g, hgn⟩ := pow_named
    rw [hgn] at h3 ⊢
    simp only [Option.bind_some] at h3 ⊢
    have hlt : g < w.heap.size := by
      rcases Nat.lt_or_ge g w.heap.size with h' | h'
      · exact h'
      · rw [Array.getElem?_eq_none h'] at h3; cases h3
    rw [hg.block g hlt (by have := hb2 g hgn; simpa using this.symm)]
    exact h3
theorem Env.below {w w' : World} (h : Env w) (hB : Below w.heap.size w w') : Env w' := by
  obtain ⟨⟨ev, h1, h2⟩, h3⟩ := h
  obtain ⟨g, hgn⟩ := pow_named
  refine ⟨⟨ev, (hB.cell (cell_lt h1)).trans h1, h2⟩, ?_⟩
  unfold Lib.TabIs World.var? at h3 ⊢
  rw [hgn] at h3 ⊢
  simp only [Option.bind_some] at h3 ⊢
  have hlt : g < w.heap.size := by
    rcases Nat.lt_or_ge g w.heap.size with h' | h'
    · exact h'
    · rw [Array.getElem?_eq_none h'] at h3; cases h3
  rw [hB.block g hlt]
  exact h3

set_option maxRecDepth 100000 in
set_option maxHeartbeats 2000000 in
theorem i_Small (l : List UInt8) (w : World) (hE : Env w) (hn : natB l = true) (hl : l.length ≤ 24) :
    Calls Tryz.prog 146 #[.string (str l)] w fun e w' => (if numOf l < 9223372036854775808 then e = .returned (.tuple #[.int .i64 (numOf l), .int .i64 0]) else e = .returned (.tuple #[.int .i64 0, .int .i64 2])) ∧ Below w.heap.size w w' := by
  have hc := hid (i_Check l w hn hl)
  obtain ⟨d0, d1, _⟩ := nat_digits hn
  have ha := atoi_dig d0 d1
  by_cases hv : numOf l < 9223372036854775808
  · rw [if_pos hv] at ha
    have hat := hid (fun w => (Any.strconv_Atoi_ok nlayC172 (str l) (by rw [str_size]; omega) (numOf l) ha w))
    have HV := hid hv
    generalize numOf l = v at *
    clear hn hl ha d0 d1 hE hv
    go_enter Tryz.func146, Tryz.ntmps146
    go_wp2_with fail
    refine hc.out.mono ?_
    rintro e w1 ⟨rfl, hB1⟩
    have HB1 := hid hB1
    clear hB1
    dsimp only
    go_wp2_with fail
    refine (hat.out _).mono ?_
    rintro e w2 ⟨rfl, hw2⟩
    have hB2 : Hid (Below w1.heap.size w1 w2) := by
      rcases hw2 with rfl | ⟨t, rfl⟩
      · exact Below.refl _ _
      · exact bytes_below _ _ _
    clear hw2
    dsimp only
    go_wp2_with fail
    go_ret2
    exact ⟨by first | rfl | rw [if_pos HV.out], up HB1.out hB2.out⟩
  · rw [if_neg hv] at ha
    obtain ⟨ev, e1, e2⟩ := hE.rng
    have e1l := cell_lt e1
    have hat := hid (fun (w1 : World) (hB : Below w.heap.size w w1) => Any.strconv_Atoi_range nlayC172 (str l) (by rw [str_size]; omega) ha ev w1 ((hB.cell e1l).trans e1) e2)
    have HV := hid hv
    clear hn hl ha d0 d1 hE hv e1 e2 e1l
    go_enter Tryz.func146, Tryz.ntmps146
    go_wp2_with fail
    refine hc.out.mono ?_
    rintro e w1 ⟨rfl, hB1⟩
    have HB1 := hid hB1
    clear hB1
    dsimp only
    go_wp2_with fail
    refine (hat.out _ HB1.out).mono ?_
    rintro e w2 ⟨N, rfl, hN, hcell, hB2⟩
    have HB2 := hid hB2
    clear hB2 hN hcell
    dsimp only
    go_wp2_with fail
    go_ret2
    exact ⟨by first | rfl | rw [if_neg HV.out], up HB1.out HB2.out⟩

set_option maxRecDepth 100000 in
set_option maxHeartbeats 2000000 in
theorem lx_Natural (l : List UInt8) (w : World) (hE : Env w) (hl : l.length ≤ 4096) :
    Calls Tryz.prog 118 #[.string (str l)] w fun e w' => e = .returned (.tuple #[.int .i64 (natR l).1, .int .i64 (natR l).2]) ∧ Below w.heap.size w w' := by
  have hna := hid (p_nat l w (by omega))
  unfold natR
  cases hn : natB l with
  | false =>
    rw [if_pos rfl]
    rw [hn] at hna
    clear hn hE
    go_enter Tryz.func118, Tryz.ntmps118
    go_wp2_with fail
    refine hna.out.mono ?_
    rintro e w1 ⟨rfl, hB1⟩
    have HB1 := hid hB1
    clear hB1
    dsimp only
    go_wp2_with fail
    go_ret2
    exact ⟨rfl, HB1.out⟩
  | true =>
    rw [if_neg (by decide)]
    rw [hn] at hna
    by_cases h24 : 24 < l.length
    · have hbig : 1099511627776 < numOf l := nat_long hn h24
      have h24' : (24 : Int) < ((str l).size : Int) := by rw [str_size]; omega
      rw [if_pos hbig]
      clear hn hE hbig h24
      go_enter Tryz.func118, Tryz.ntmps118
      go_wp2_with fail
      refine hna.out.mono ?_
      rintro e w1 ⟨rfl, hB1⟩
      have HB1 := hid hB1
      clear hB1
      dsimp only
      go_wp2_with fail
      go_ret2
      exact ⟨rfl, HB1.out⟩
    · have h24' : ¬ (24 : Int) < ((str l).size : Int) := by rw [str_size]; omega
      have hs := hid (fun (w1 : World) (hB : Below w.heap.size w w1) => i_Small l w1 (hE.below hB) hn (by omega))
      by_cases hv : numOf l < 9223372036854775808
      · have hs2 : Hid (∀ (w1 : World), Below w.heap.size w w1 → Calls Tryz.prog 146 #[.string (str l)] w1 fun e w' => e = .returned (.tuple #[.int .i64 (numOf l), .int .i64 0]) ∧ Below w1.heap.size w1 w') := fun w1 hB => (hs.out w1 hB).mono (fun e w' h => by rw [if_pos hv] at h; exact h)
        by_cases hm : 1099511627776 < numOf l
        · have hm1 : (1099511627776 : Int) < (numOf l : Int) := by omega
          rw [if_pos hm]
          have HV := hid hv
          generalize numOf l = v at *
          clear hn hE h24 hs hv hm
          go_enter Tryz.func118, Tryz.ntmps118
          go_wp2_with fail
          refine hna.out.mono ?_
          rintro e w1 ⟨rfl, hB1⟩
          have HB1 := hid hB1
          clear hB1
          dsimp only
          go_wp2_with fail
          refine (hs2.out _ HB1.out).mono ?_
          rintro e w2 ⟨rfl, hB2⟩
          have HB2 := hid hB2
          clear hB2
          dsimp only
          go_wp2_with fail
          go_ret2
          exact ⟨rfl, up HB1.out HB2.out⟩
        · have hm1 : ¬ (1099511627776 : Int) < (numOf l : Int) := by omega
          rw [if_neg hm]
          have HV := hid hv
          generalize numOf l = v at *
          clear hn hE h24 hs hv hm
          go_enter Tryz.func118, Tryz.ntmps118
          go_wp2_with fail
          refine hna.out.mono ?_
          rintro e w1 ⟨rfl, hB1⟩
          have HB1 := hid hB1
          clear hB1
          dsimp only
          go_wp2_with fail
          refine (hs2.out _ HB1.out).mono ?_
          rintro e w2 ⟨rfl, hB2⟩
          have HB2 := hid hB2
          clear hB2
          dsimp only
          go_wp2_with fail
          go_ret2
          exact ⟨rfl, up HB1.out HB2.out⟩
      · have hs2 : Hid (∀ (w1 : World), Below w.heap.size w w1 → Calls Tryz.prog 146 #[.string (str l)] w1 fun e w' => e = .returned (.tuple #[.int .i64 0, .int .i64 2]) ∧ Below w1.heap.size w1 w') := fun w1 hB => (hs.out w1 hB).mono (fun e w' h => by rw [if_neg hv] at h; exact h)
        rw [if_pos (by omega)]
        clear hn hE h24 hs hv
        go_enter Tryz.func118, Tryz.ntmps118
        go_wp2_with fail
        refine hna.out.mono ?_
        rintro e w1 ⟨rfl, hB1⟩
        have HB1 := hid hB1
        clear hB1
        dsimp only
        go_wp2_with fail
        refine (hs2.out _ HB1.out).mono ?_
        rintro e w2 ⟨rfl, hB2⟩
        have HB2 := hid hB2
        clear hB2
        dsimp only
        go_wp2_with fail
        go_ret2
        exact ⟨rfl, up HB1.out HB2.out⟩

end Go.Proofs.YtemmepgfngkgmaaGreatDoor
