/-
  The library's strings.CutPrefix and strconv.Atoi laid at this program. lexer.Natural of a short number, and what it leans on: integer.Check, integer.Small.
-/
import Derived.Test.YtemmepgfngkgmaaGreatDoorKL
import Derived.Shelf.Small.Wraps
import Derived.Shelf.Strconv.Atoi
import Derived.Test.YtemmepgfngkgmaaGreatDoorK2
namespace Go.Proofs.YtemmepgfngkgmaaGreatDoor
open Go.RowKit

def renA : Go.Shelf.Ren := ⟨fun | 103 => 192 | 129 => 183 | 171 => 58 | 172 => 169 | 205 => 218 | 206 => 215 | 210 => 207 | 243 => 110 | 244 => 193 | 245 => 194 | 246 => 134 | 247 => 208 | 279 => 209 | 280 => 210 | 281 => 211 | 282 => 212 | 283 => 159 | 284 => 160 | 285 => 161 | 286 => 162 | 287 => 216 | 316 => 217 | 317 => 185 | 318 => 186 | 319 => 187 | 320 => 188 | 321 => 220 | 322 => 221 | 337 => 202 | 338 => 203 | n => n, fun | 0 => 0 | 2 => 2 | 3 => 3 | 4 => 4 | 5 => 5 | 9 => 9 | 20 => 20 | 21 => 21 | 24 => 252 | 37 => 116 | 46 => 195 | 51 => 245 | 53 => 227 | 75 => 121 | 76 => 122 | 80 => 125 | 85 => 269 | 127 => 177 | 143 => 284 | 145 => 286 | 167 => 268 | 168 => 271 | 171 => 226 | 173 => 230 | 175 => 278 | 210 => 281 | 212 => 249 | 213 => 250 | 232 => 276 | 233 => 277 | n => n, fun | 15 => 6 | 16 => 7 | 17 => 0 | 18 => 4 | 19 => 5 | n => n⟩
theorem lay103 : Go.Proofs.Lays.n103 Tryz.prog renA :=
  { mixed := by kernel_rfl,
    f103 := by kernel_rfl,
    f206 := by kernel_rfl,
    f210 := by kernel_rfl,
    t3 := by kernel_rfl,
    a3 := fun _ => by kernel_rfl,
    z3 := fun _ => by kernel_rfl,
    v3 := fun _ => by kernel_rfl,
    t4 := by kernel_rfl,
    a4 := fun _ => by kernel_rfl,
    z4 := fun _ => by kernel_rfl,
    v4 := fun _ => by kernel_rfl,
    t9 := by kernel_rfl,
    a9 := fun _ => by kernel_rfl,
    z9 := fun _ => by kernel_rfl,
    v9 := fun _ => by kernel_rfl,
    t24 := by kernel_rfl,
    a24 := fun _ => by kernel_rfl,
    z24 := fun _ => by kernel_rfl,
    v24 := fun _ => by kernel_rfl }
theorem lay172 : Go.Proofs.Lays.n172 Tryz.prog renA :=
  { mixed := by kernel_rfl,
    f129 := by kernel_rfl,
    f171 := by kernel_rfl,
    f172 := by kernel_rfl,
    f205 := by kernel_rfl,
    f243 := by kernel_rfl,
    f244 := by kernel_rfl,
    f245 := by kernel_rfl,
    f246 := by kernel_rfl,
    f247 := by kernel_rfl,
    f279 := by kernel_rfl,
    f280 := by kernel_rfl,
    f281 := by kernel_rfl,
    f282 := by kernel_rfl,
    f283 := by kernel_rfl,
    f284 := by kernel_rfl,
    f285 := by kernel_rfl,
    f286 := by kernel_rfl,
    f287 := by kernel_rfl,
    f316 := by kernel_rfl,
    f317 := by kernel_rfl,
    f318 := by kernel_rfl,
    f319 := by kernel_rfl,
    f320 := by kernel_rfl,
    f321 := by kernel_rfl,
    f322 := by kernel_rfl,
    f337 := by kernel_rfl,
    f338 := by kernel_rfl,
    t0 := by kernel_rfl,
    a0 := fun _ => by kernel_rfl,
    z0 := fun _ => by kernel_rfl,
    v0 := fun _ => by kernel_rfl,
    t2 := by kernel_rfl,
    a2 := fun _ => by kernel_rfl,
    z2 := fun _ => by kernel_rfl,
    v2 := fun _ => by kernel_rfl,
    t3 := by kernel_rfl,
    a3 := fun _ => by kernel_rfl,
    z3 := fun _ => by kernel_rfl,
    v3 := fun _ => by kernel_rfl,
    t4 := by kernel_rfl,
    a4 := fun _ => by kernel_rfl,
    z4 := fun _ => by kernel_rfl,
    v4 := fun _ => by kernel_rfl,
    t5 := by kernel_rfl,
    a5 := fun _ => by kernel_rfl,
    z5 := fun _ => by kernel_rfl,
    v5 := fun _ => by kernel_rfl,
    t9 := by kernel_rfl,
    a9 := fun _ => by kernel_rfl,
    z9 := fun _ => by kernel_rfl,
    v9 := fun _ => by kernel_rfl,
    t20 := by kernel_rfl,
    a20 := fun _ => by kernel_rfl,
    z20 := fun _ => by kernel_rfl,
    v20 := fun _ => by kernel_rfl,
    t21 := by kernel_rfl,
    a21 := fun _ => by kernel_rfl,
    z21 := fun _ => by kernel_rfl,
    v21 := fun _ => by kernel_rfl,
    t37 := by kernel_rfl,
    a37 := fun _ => by kernel_rfl,
    z37 := fun _ => by kernel_rfl,
    v37 := fun _ => by kernel_rfl,
    t46 := by kernel_rfl,
    a46 := fun _ => by kernel_rfl,
    z46 := fun _ => by kernel_rfl,
    v46 := fun _ => by kernel_rfl,
    t51 := by kernel_rfl,
    a51 := fun _ => by kernel_rfl,
    z51 := fun _ => by kernel_rfl,
    v51 := fun _ => by kernel_rfl,
    t53 := by kernel_rfl,
    a53 := fun _ => by kernel_rfl,
    z53 := fun _ => by kernel_rfl,
    v53 := fun _ => by kernel_rfl,
    t75 := by kernel_rfl,
    a75 := fun _ => by kernel_rfl,
    z75 := fun _ => by kernel_rfl,
    v75 := fun _ => by kernel_rfl,
    t76 := by kernel_rfl,
    a76 := fun _ => by kernel_rfl,
    z76 := fun _ => by kernel_rfl,
    v76 := fun _ => by kernel_rfl,
    t85 := by kernel_rfl,
    a85 := fun _ => by kernel_rfl,
    z85 := fun _ => by kernel_rfl,
    v85 := fun _ => by kernel_rfl,
    t127 := by kernel_rfl,
    a127 := fun _ => by kernel_rfl,
    z127 := fun _ => by kernel_rfl,
    v127 := fun _ => by kernel_rfl,
    t143 := by kernel_rfl,
    a143 := fun _ => by kernel_rfl,
    z143 := fun _ => by kernel_rfl,
    v143 := fun _ => by kernel_rfl,
    t145 := by kernel_rfl,
    a145 := fun _ => by kernel_rfl,
    z145 := fun _ => by kernel_rfl,
    v145 := fun _ => by kernel_rfl,
    t167 := by kernel_rfl,
    a167 := fun _ => by kernel_rfl,
    z167 := fun _ => by kernel_rfl,
    v167 := fun _ => by kernel_rfl,
    t168 := by kernel_rfl,
    a168 := fun _ => by kernel_rfl,
    z168 := fun _ => by kernel_rfl,
    v168 := fun _ => by kernel_rfl,
    t171 := by kernel_rfl,
    a171 := fun _ => by kernel_rfl,
    z171 := fun _ => by kernel_rfl,
    v171 := fun _ => by kernel_rfl,
    t173 := by kernel_rfl,
    a173 := fun _ => by kernel_rfl,
    z173 := fun _ => by kernel_rfl,
    v173 := fun _ => by kernel_rfl,
    t175 := by kernel_rfl,
    a175 := fun _ => by kernel_rfl,
    z175 := fun _ => by kernel_rfl,
    v175 := fun _ => by kernel_rfl,
    t210 := by kernel_rfl,
    a210 := fun _ => by kernel_rfl,
    z210 := fun _ => by kernel_rfl,
    v210 := fun _ => by kernel_rfl,
    t212 := by kernel_rfl,
    a212 := fun _ => by kernel_rfl,
    z212 := fun _ => by kernel_rfl,
    v212 := fun _ => by kernel_rfl,
    t213 := by kernel_rfl,
    a213 := fun _ => by kernel_rfl,
    z213 := fun _ => by kernel_rfl,
    t232 := by kernel_rfl,
    a232 := fun _ => by kernel_rfl,
    z232 := fun _ => by kernel_rfl,
    v232 := fun _ => by kernel_rfl,
    t233 := by kernel_rfl,
    a233 := fun _ => by kernel_rfl,
    z233 := fun _ => by kernel_rfl,
    v233 := fun _ => by kernel_rfl,
    g15 := by kernel_rfl,
    g16 := by kernel_rfl,
    g17 := by kernel_rfl,
    g18 := by kernel_rfl,
    g19 := by kernel_rfl }

end Go.Proofs.YtemmepgfngkgmaaGreatDoor

namespace Go.Proofs.YtemmepgfngkgmaaGreatDoor
open Go.RowKit

theorem bytes_below (w : World) (e : TypeId) (s : ByteArray) : Below w.heap.size w (Lib.bytesWorld w e s) :=
  ⟨rfl, rfl, rfl, by rw [Lib.bytesWorld_size]; omega, fun k hk => Lib.bytesWorld_at_old w e s k hk⟩

theorem nat_digits {l : List UInt8} (h : natB l = true) : l ≠ [] ∧ l.all isDig = true ∧ (l.head? ≠ some 48 ∨ l.length = 1) := by
  unfold natB at h
  simp only [Bool.and_eq_true, Bool.not_eq_true', List.isEmpty_eq_false_iff, Bool.or_eq_true, decide_eq_true_eq] at h
  exact ⟨h.1.1, h.1.2, h.2⟩

set_option maxRecDepth 100000 in
set_option maxHeartbeats 4000000 in
theorem i_Check (l : List UInt8) (w : World) (hn : natB l = true) (hl : l.length ≤ 24) :
    Calls Tryz.prog 168 #[.string (str l)] w fun e w' => e = .returned (.int .i64 0) ∧ Below w.heap.size w w' := by
  obtain ⟨h1, h2, h3⟩ := nat_digits hn
  obtain ⟨c, r, hcr⟩ : ∃ c r, l = c :: r := by
    cases l with
    | nil => exact absurd rfl h1
    | cons c r => exact ⟨c, r, rfl⟩
  have hcd : isDig c = true := by rw [hcr] at h2; simp at h2; exact h2.1
  have hpre : Lib.hasPrefix l [45] = false := by
    rw [hcr]; unfold Lib.hasPrefix
    have : c ≠ 45 := by rintro rfl; simp [isDig] at hcd
    simp [List.isPrefixOf]; exact fun h => this h.symm
  have hcut : ∀ w, Calls Tryz.prog 192 #[.string (str l), .string (str [45])] w fun e w' => e = .returned (.tuple #[.string (str l), .bool false]) ∧ w' = w := fun w => by
    refine (Any.strings_CutPrefix lay103 (str l) (str [45]) w).mono ?_
    rintro e w' ⟨h, h'⟩
    rw [str_data, str_data] at h
    have ht : Lib.trimPrefix l [45] = l := by unfold Lib.trimPrefix; rw [hpre]; rfl
    rw [hpre, ht] at h
    exact ⟨h, h'⟩
  have hcv := Lib.run_convert_string_bytes (P := Tryz.prog) w 9 116 5 (str l) (u := .string) (by kernel_rfl) (by kernel_rfl) (by kernel_rfl)
  have hB : ∀ j, j < l.length → ∃ d, isDig d = true ∧ (Lib.bytesWorld w 5 (str l)).cell? ⟨w.heap.size, j, none⟩ = some (.int .u8 d.toNat) := fun j hj => by
    refine ⟨l[j], List.all_eq_true.1 h2 _ (List.getElem_mem hj), ?_⟩
    have := Lib.bytesWorld_cell w 5 (str l) j (by rw [str_size]; exact hj)
    rw [this, str_data]; simp [List.getD, hj]
  have hbel := bytes_below w 5 (str l)
  have hszw := Lib.bytesWorld_size w 5 (str l)
  obtain ⟨W1, hW1⟩ : ∃ W1, W1 = Lib.bytesWorld w 5 (str l) := ⟨_, rfl⟩
  rw [← hW1] at hcv hB hbel hszw
  generalize grownCap w (str l).size 0 5 = gc at *
  have HB := hid hB
  have hsz := str_size l
  have hs0 : 0 < (str l).size := by rw [hsz, hcr]; simp
  have hE := isE_str l (b := false) (by rw [hcr]; rfl)
  have h0 : ((((str l)[0]'hs0).toNat : Nat) : Int) = 48 → (str l).size = 1 := fun h => by
    have h48 : c = 48 := by
      have : (str l)[0]'hs0 = c := by simp [str_at, hcr]
      rw [this] at h
      exact UInt8.toNat_inj.1 (by have h' : (48 : UInt8).toNat = 48 := rfl; omega)
    rcases h3 with h3 | h3
    · rw [hcr, h48] at h3; simp at h3
    · rw [hsz]; exact h3
  have H0 := hid h0
  have HL := hid hl
  have HW := hid hW1
  clear hW1 hB h0 hn h1 h2 h3 hcr hcd hpre hl
  go_enter Tryz.func168, Tryz.ntmps168
  go_wp2_with fail
  refine (hcut _).mono ?_
  rintro e w0 ⟨rfl, rfl⟩
  go_simp
  go_wp2_with fail
  go_loopw [15] (fun i wr => ∃ k : Nat, k ≤ l.length ∧ i = .int .i64 k ∧ wr = W1) (fun i _ => l.length - (intOf i).toNat)
  case atStart => exact ⟨0, Nat.zero_le _, rfl, rfl⟩
  case round =>
    obtain ⟨k, hk, rfl, rfl⟩ := hrel
    by_cases hkt : k < l.length
    · obtain ⟨d, hd, hcell⟩ := HB.out k hkt
      have hd1 : (48 : Int) ≤ d.toNat := by unfold isDig at hd; simp at hd; omega
      have hd2 : (d.toNat : Int) ≤ 57 := by unfold isDig at hd; simp at hd; omega
      have hd3 : ¬ ((d.toNat : Int) < 48) := by omega
      have hd4 : ¬ ((57 : Int) < d.toNat) := by omega
      have hws : w0.heap.size < wr.heap.size := by omega
      clear hd
      go_wp2_with fail
      rw [wrapS _ (by have := HL.out; omega)]
      go_roundw
      case rel => exact ⟨k + 1, by omega, by go_num, trivial⟩
      case measure => simp [intOf]; omega
    · have hkl : k = l.length := by omega
      have h24 : ¬ ((1024 : Int) < ((str l).size : Int)) := by have := HL.out; omega
      by_cases h48 : ((((str l)[0]'hs0).toNat : Nat) : Int) = 48
      · have h1 := H0.out h48
        have h1' : ¬ ((1 : Int) < ((str l).size : Int)) := by omega
        have h48' : (((((str l)[0]'hs0).toNat : Nat) : Int) == 48) = true := by rw [h48]; rfl
        clear h48 h1
        go_wp2_with fail
        go_ret
        exact ⟨rfl, hbel⟩
      · have h48' : (((((str l)[0]'hs0).toNat : Nat) : Int) == 48) = false := by simpa using h48
        clear h48
        go_wp2_with fail
        go_ret
        exact ⟨rfl, hbel⟩

set_option maxRecDepth 100000 in
set_option maxHeartbeats 2000000 in
theorem p_Small (l : List UInt8) (n : Int) (w : World) (hn : natB l = true) (hl : l.length ≤ 18) (ha : Lib.atoi l = some n) :
    Calls Tryz.prog 146 #[.string (str l)] w fun e w' => e = .returned (.tuple #[.int .i64 n, .int .i64 0]) ∧ Below w.heap.size w w' := by
  have hc := hid (fun w => i_Check l w hn (by omega))
  have hat : Hid (∀ w, Calls Tryz.prog 169 #[.string (str l)] w fun e w' => e = .returned (.tuple #[.int .i64 n, .nilIface]) ∧ Below w.heap.size w w') := fun w => by
    refine (Any.strconv_Atoi lay172 (str l) n (by rw [str_size]; exact hl) ha w).mono ?_
    rintro e w' ⟨h, t, rfl⟩
    exact ⟨h, bytes_below _ _ _⟩
  clear hn hl ha
  go_enter Tryz.func146, Tryz.ntmps146
  go_wp2_with fail
  refine (hc.out _).mono ?_
  rintro e w1 ⟨rfl, hB1⟩
  go_simp
  go_wp2_with fail
  refine (hat.out _).mono ?_
  rintro e w2 ⟨rfl, hB2⟩
  go_simp
  go_wp2_with fail
  go_ret2
  exact ⟨rfl, hB1.trans (hB2.mono hB1.size)⟩

set_option maxRecDepth 100000 in
set_option maxHeartbeats 2000000 in
theorem p_Natural (l : List UInt8) (n : Int) (w : World) (hn : natB l = true) (hl : l.length ≤ 18) (ha : Lib.atoi l = some n) (hm : n ≤ 1099511627776) :
    Calls Tryz.prog 118 #[.string (str l)] w fun e w' => e = .returned (.tuple #[.int .i64 n, .int .i64 0]) ∧ Below w.heap.size w w' := by
  have hc := hid (fun w => p_Small l n w hn hl ha)
  have hna : Hid (∀ w, Calls Tryz.prog 145 #[.string (str l)] w fun e w' => e = .returned (.bool true) ∧ Below w.heap.size w w') := fun w => by
    rw [← hn]; exact p_nat l w (by omega)
  have h24 : ¬ ((24 : Int) < ((str l).size : Int)) := by rw [str_size]; omega
  have hm' : ¬ (1099511627776 < n) := by omega
  clear hn hl ha hm
  go_enter Tryz.func118, Tryz.ntmps118
  go_wp2_with fail
  refine (hna.out _).mono ?_
  rintro e w1 ⟨rfl, hB1⟩
  go_simp
  go_wp2_with fail
  refine (hc.out _).mono ?_
  rintro e w2 ⟨rfl, hB2⟩
  go_simp
  go_wp2_with fail
  go_ret2
  exact ⟨rfl, hB1.trans (hB2.mono hB1.size)⟩

end Go.Proofs.YtemmepgfngkgmaaGreatDoor
