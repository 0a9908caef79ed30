/-
  lexer.Natural of a short number, and what it leans on: integer.Check, integer.Small.
-/
import Derived.Test.YtkeglokokleonaaDoorK3
import Derived.Test.YtkeglokokleonaaDoorKA
namespace Go.Proofs.YtkeglokokleonaaDoor
open Go.RowKit

theorem bytes_below (w : World) (e : TypeId) (s : ByteArray) : Below w.heap.size w (Lib.bytesWorld w e s) :=
  ⟨rfl, rfl, rfl, by rw [Lib.bytesWorld_size]; omega, fun k hk => Lib.bytesWorld_at_old w e s k hk⟩

theorem nat_digits {l : List UInt8} (h : natB l = true) : l ≠ [] ∧ l.all isDig = true ∧ (l.head? ≠ some 48 ∨ l.length = 1) := by
  unfold natB at h
  simp only [Bool.and_eq_true, Bool.not_eq_true', List.isEmpty_eq_false_iff, Bool.or_eq_true, decide_eq_true_eq] at h
  exact ⟨h.1.1, h.1.2, h.2⟩

set_option maxRecDepth 100000 in
set_option maxHeartbeats 4000000 in
theorem p_Check (l : List UInt8) (w : World) (hn : natB l = true) (hl : l.length ≤ 24) :
    Calls Tryd.prog 82 #[.string (str l)] w fun e w' => e = .returned (.int .i64 0) ∧ Below w.heap.size w w' := by
  obtain ⟨h1, h2, h3⟩ := nat_digits hn
  obtain ⟨c, r, hcr⟩ : ∃ c r, l = c :: r := by
    cases l with
    | nil => exact absurd rfl h1
    | cons c r => exact ⟨c, r, rfl⟩
  have hcd : isDig c = true := by rw [hcr] at h2; simp at h2; exact h2.1
  have hpre : Lib.hasPrefix l [45] = false := by
    rw [hcr]; unfold Lib.hasPrefix
    have : c ≠ 45 := by rintro rfl; simp [isDig] at hcd
    simp [List.isPrefixOf]; exact fun h => this h.symm
  have hcut : ∀ w, Calls Tryd.prog 90 #[.string (str l), .string (str [45])] w fun e w' => e = .returned (.tuple #[.string (str l), .bool false]) ∧ w' = w := fun w => by
    refine (Any.strings_CutPrefix lay103 (str l) (str [45]) w).mono ?_
    rintro e w' ⟨h, h'⟩
    rw [str_data, str_data] at h
    have ht : Lib.trimPrefix l [45] = l := by unfold Lib.trimPrefix; rw [hpre]; rfl
    rw [hpre, ht] at h
    exact ⟨h, h'⟩
  have hcv := Lib.run_convert_string_bytes (P := Tryd.prog) w 9 46 5 (str l) (u := .string) (by kernel_rfl) (by kernel_rfl) (by kernel_rfl)
  have hB : ∀ j, j < l.length → ∃ d, isDig d = true ∧ (Lib.bytesWorld w 5 (str l)).cell? ⟨w.heap.size, j, none⟩ = some (.int .u8 d.toNat) := fun j hj => by
    refine ⟨l[j], List.all_eq_true.1 h2 _ (List.getElem_mem hj), ?_⟩
    have := Lib.bytesWorld_cell w 5 (str l) j (by rw [str_size]; exact hj)
    rw [this, str_data]; simp [List.getD, hj]
  have hbel := bytes_below w 5 (str l)
  have hszw := Lib.bytesWorld_size w 5 (str l)
  obtain ⟨W1, hW1⟩ : ∃ W1, W1 = Lib.bytesWorld w 5 (str l) := ⟨_, rfl⟩
  rw [← hW1] at hcv hB hbel hszw
  generalize grownCap w (str l).size 0 5 = gc at *
  have HB := hid hB
  have hsz := str_size l
  have hs0 : 0 < (str l).size := by rw [hsz, hcr]; simp
  have hE := isE_str l (b := false) (by rw [hcr]; rfl)
  have h0 : ((((str l)[0]'hs0).toNat : Nat) : Int) = 48 → (str l).size = 1 := fun h => by
    have h48 : c = 48 := by
      have : (str l)[0]'hs0 = c := by simp [str_at, hcr]
      rw [this] at h
      exact UInt8.toNat_inj.1 (by have h' : (48 : UInt8).toNat = 48 := rfl; omega)
    rcases h3 with h3 | h3
    · rw [hcr, h48] at h3; simp at h3
    · rw [hsz]; exact h3
  have H0 := hid h0
  have HL := hid hl
  have HW := hid hW1
  clear hW1 hB h0 hn h1 h2 h3 hcr hcd hpre hl
  go_enter Tryd.func82, Tryd.ntmps82
  go_wp2_with fail
  refine (hcut _).mono ?_
  rintro e w0 ⟨rfl, rfl⟩
  go_simp
  go_wp2_with fail
  go_loopw [15] (fun i wr => ∃ k : Nat, k ≤ l.length ∧ i = .int .i64 k ∧ wr = W1) (fun i _ => l.length - (intOf i).toNat)
  case atStart => exact ⟨0, Nat.zero_le _, rfl, rfl⟩
  case round =>
    obtain ⟨k, hk, rfl, rfl⟩ := hrel
    by_cases hkt : k < l.length
    · obtain ⟨d, hd, hcell⟩ := HB.out k hkt
      have hd1 : (48 : Int) ≤ d.toNat := by unfold isDig at hd; simp at hd; omega
      have hd2 : (d.toNat : Int) ≤ 57 := by unfold isDig at hd; simp at hd; omega
      have hd3 : ¬ ((d.toNat : Int) < 48) := by omega
      have hd4 : ¬ ((57 : Int) < d.toNat) := by omega
      have hws : w0.heap.size < wr.heap.size := by omega
      clear hd
      go_wp2_with fail
      rw [wrapS _ (by have := HL.out; omega)]
      go_roundw
      case rel => exact ⟨k + 1, by omega, by go_num, trivial⟩
      case measure => simp [intOf]; omega
    · have hkl : k = l.length := by omega
      have h24 : ¬ ((1024 : Int) < ((str l).size : Int)) := by have := HL.out; omega
      by_cases h48 : ((((str l)[0]'hs0).toNat : Nat) : Int) = 48
      · have h1 := H0.out h48
        have h1' : ¬ ((1 : Int) < ((str l).size : Int)) := by omega
        have h48' : (((((str l)[0]'hs0).toNat : Nat) : Int) == 48) = true := by rw [h48]; rfl
        clear h48 h1
        go_wp2_with fail
        go_ret
        exact ⟨rfl, hbel⟩
      · have h48' : (((((str l)[0]'hs0).toNat : Nat) : Int) == 48) = false := by simpa using h48
        clear h48
        go_wp2_with fail
        go_ret
        exact ⟨rfl, hbel⟩

set_option maxRecDepth 100000 in
set_option maxHeartbeats 2000000 in
theorem p_Small (l : List UInt8) (n : Int) (w : World) (hn : natB l = true) (hl : l.length ≤ 18) (ha : Lib.atoi l = some n) :
    Calls Tryd.prog 69 #[.string (str l)] w fun e w' => e = .returned (.tuple #[.int .i64 n, .int .i64 0]) ∧ Below w.heap.size w w' := by
  have hc := hid (fun w => p_Check l w hn (by omega))
  have hat : Hid (∀ w, Calls Tryd.prog 83 #[.string (str l)] w fun e w' => e = .returned (.tuple #[.int .i64 n, .nilIface]) ∧ Below w.heap.size w w') := fun w => by
    refine (Any.strconv_Atoi lay172 (str l) n (by rw [str_size]; exact hl) ha w).mono ?_
    rintro e w' ⟨h, t, rfl⟩
    exact ⟨h, bytes_below _ _ _⟩
  clear hn hl ha
  go_enter Tryd.func69, Tryd.ntmps69
  go_wp2_with fail
  refine (hc.out _).mono ?_
  rintro e w1 ⟨rfl, hB1⟩
  go_simp
  go_wp2_with fail
  refine (hat.out _).mono ?_
  rintro e w2 ⟨rfl, hB2⟩
  go_simp
  go_wp2_with fail
  go_ret2
  exact ⟨rfl, hB1.trans (hB2.mono hB1.size)⟩

set_option maxRecDepth 100000 in
set_option maxHeartbeats 2000000 in
theorem p_Natural (l : List UInt8) (n : Int) (w : World) (hn : natB l = true) (hl : l.length ≤ 18) (ha : Lib.atoi l = some n) (hm : n ≤ 1099511627776) :
    Calls Tryd.prog 48 #[.string (str l)] w fun e w' => e = .returned (.tuple #[.int .i64 n, .int .i64 0]) ∧ Below w.heap.size w w' := by
  have hc := hid (fun w => p_Small l n w hn hl ha)
  have hna : Hid (∀ w, Calls Tryd.prog 68 #[.string (str l)] w fun e w' => e = .returned (.bool true) ∧ Below w.heap.size w w') := fun w => by
    rw [← hn]; exact p_nat l w (by omega)
  have h24 : ¬ ((24 : Int) < ((str l).size : Int)) := by rw [str_size]; omega
  have hm' : ¬ (1099511627776 < n) := by omega
  clear hn hl ha hm
  go_enter Tryd.func48, Tryd.ntmps48
  go_wp2_with fail
  refine (hna.out _).mono ?_
  rintro e w1 ⟨rfl, hB1⟩
  go_simp
  go_wp2_with fail
  refine (hc.out _).mono ?_
  rintro e w2 ⟨rfl, hB2⟩
  go_simp
  go_wp2_with fail
  go_ret2
  exact ⟨rfl, hB1.trans (hB2.mono hB1.size)⟩

end Go.Proofs.YtkeglokokleonaaDoor
