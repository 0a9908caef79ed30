/-
  The reference's reader: number, mult.
-/
import Derived.Test.YtemmepgfngkgmaaGreatDoorN32
namespace Go.Proofs.YtemmepgfngkgmaaGreatDoor
open Go.RowKit
set_option linter.unusedVariables false
set_option linter.unusedSimpArgs false

set_option maxRecDepth 100000 in
set_option maxHeartbeats 4000000 in
theorem q_number (w : World) (b tb : Nat) (L : List Tok) (s : Rs) (h : Rk w b tb L s) (lo hi : Int) :
    Calls Tryz.prog 70 #[.pointer (some ⟨b, 0, none⟩), .int .i64 lo, .int .i64 hi] w fun e w' => e = .returned (.int .i64 (s.num lo hi).1) ∧ Rk w' b tb L (s.num lo hi).2 ∧ w.grownBy w' (some b) := by
  obtain ⟨off, cap, j, hlt, hne, hj, hl, h2, h3, _, d0, d1, d2, d3, c0, c1, c2⟩ := h.cells
  have hbl := h.lt
  have HN := hid (q_now w b tb L s h)
  have HF := hid (fun (w1 : World) (hB : Below w.heap.size w w1) k p => q_fail w1 b tb L s (h.below hB) k p)
  have HSK := hid (fun (w1 : World) (hB : Below w.heap.size w w1) h3 => (h.below hB).step1 h3)
  have HFZ := hid (fun (w1 : World) (hB : Below w.heap.size w w1) => (h.below hB).frozen 1)
  have HNA := hid (fun (w1 : World) => r_Natural s.now.text w1 (h.1.text 0))
  have HD2 : Hid (∀ w1, Below w.heap.size w w1 → w1.cell? ⟨b, 2, none⟩ = some (.int .i64 s.e)) := fun w1 hB => (hB.cell hbl).trans d2
  obtain ⟨z, hz⟩ : ∃ z, z = s.num lo hi := ⟨_, rfl⟩
  rw [← hz]
  have HZ := hid hz
  have q0 := tok_kind
  have q1 := tok_text
  have q2 := tok_pos
  clear d0 d1 d2 d3 c0 c1 c2 hj hl h h2 h3 hz hne hlt
  unfold Rs.num at HZ
  by_cases he : s.e = 0
  case neg =>
    have he1 : (s.e != 0) = true := by simpa using he
    obtain rfl : z = (0, s.fail 4 s.now.pos) := by rw [HZ.out, if_pos (.inl he)]
    clear HZ HNA HSK he
    go_enter Tryz.func70, Tryz.ntmps70
    go_wp2_with fail
    refine HN.out.mono ?_
    rintro e w1 ⟨rfl, hB1⟩
    have HB1 := hid hB1
    clear hB1
    dsimp only
    have x2 := HD2.out _ (HB1.out.alloc HB1.out.size (.cells #[.int .i64 s.now.kind, .string (str s.now.text), .int .i64 s.now.pos] 134))
    generalize s.e = ee at *
    go_wp2_with fail
    refine (HF.out _ (HB1.out.alloc HB1.out.size _) 4 s.now.pos).mono ?_
    rintro e w3 ⟨rfl, hT3, hg⟩
    dsimp only
    go_wp2_with fail
    go_ret
    exact ⟨rfl, hT3, grown_trans (grown_of (HB1.out.alloc HB1.out.size _) _) hg⟩
  by_cases hk : s.now.kind = 1
  case neg =>
    have hk1 : (s.now.kind != 1) = true := by simpa using hk
    obtain rfl : z = (0, s.fail 4 s.now.pos) := by rw [HZ.out, if_pos (.inr hk)]
    rw [he] at HD2
    clear HZ HNA HSK he hk
    go_enter Tryz.func70, Tryz.ntmps70
    go_wp2_with fail
    refine HN.out.mono ?_
    rintro e w1 ⟨rfl, hB1⟩
    have HB1 := hid hB1
    clear hB1
    dsimp only
    have x2 := HD2.out _ (HB1.out.alloc HB1.out.size (.cells #[.int .i64 s.now.kind, .string (str s.now.text), .int .i64 s.now.pos] 134))
    generalize s.now.kind = kk at *
    go_wp2_with fail
    refine (HF.out _ (HB1.out.alloc HB1.out.size _) 4 s.now.pos).mono ?_
    rintro e w3 ⟨rfl, hT3, hg⟩
    dsimp only
    go_wp2_with fail
    go_ret
    exact ⟨rfl, hT3, grown_trans (grown_of (HB1.out.alloc HB1.out.size _) _) hg⟩
  have hk3 : s.now.kind ≠ 3 := by rw [hk]; decide
  have HK3 := hid hk3
  rw [he] at HD2
  rw [hk] at HN
  clear hk3
  rw [if_neg (show ¬ (s.e ≠ 0 ∨ s.now.kind ≠ 1) by simp [he, hk])] at HZ
  by_cases hr : (natR s.now.text).2 = 0
  case neg =>
    have hr' : ((natR s.now.text).2 != 0) = true := by simpa using hr
    obtain rfl : z = (0, s.fail 2 s.now.pos) := by rw [HZ.out, if_pos (.inl hr)]
    clear HZ HSK he hk hr HK3
    go_enter Tryz.func70, Tryz.ntmps70
    go_wp2_with fail
    refine HN.out.mono ?_
    rintro e w1 ⟨rfl, hB1⟩
    have HB1 := hid hB1
    clear hB1
    dsimp only
    have x2 := HD2.out _ (HB1.out.alloc HB1.out.size (.cells #[.int .i64 1, .string (str s.now.text), .int .i64 s.now.pos] 134))
    generalize (natR s.now.text).2 = ee at *
    go_wp2_with fail
    refine (HNA.out _).mono ?_
    rintro e w2 ⟨rfl, hw2⟩
    have HB2 : Hid (Below w.heap.size w w2) := by rw [hw2]; exact HB1.out.alloc HB1.out.size _
    have x2 : w2.cell? ⟨w1.heap.size, 2, none⟩ = some (.int .i64 s.now.pos) := by rw [hw2]; simp
    have x2l : w1.heap.size < w2.heap.size := by rw [hw2]; simp
    clear hw2
    dsimp only
    go_wp2_with fail
    refine (HF.out _ HB2.out 2 s.now.pos).mono ?_
    rintro e w3 ⟨rfl, hT3, hg⟩
    dsimp only
    go_wp2_with fail
    go_ret
    exact ⟨rfl, hT3, grown_trans (grown_of HB2.out _) hg⟩
  rw [hr] at HNA
  by_cases hlo : (natR s.now.text).1 < lo
  case pos =>
    obtain rfl : z = (0, s.fail 2 s.now.pos) := by rw [HZ.out, if_pos (.inr (.inl hlo))]
    clear HZ HSK he hk hr HK3
    generalize (natR s.now.text).1 = nn at *
    go_enter Tryz.func70, Tryz.ntmps70
    go_wp2_with fail
    refine HN.out.mono ?_
    rintro e w1 ⟨rfl, hB1⟩
    have HB1 := hid hB1
    clear hB1
    dsimp only
    have x2 := HD2.out _ (HB1.out.alloc HB1.out.size (.cells #[.int .i64 1, .string (str s.now.text), .int .i64 s.now.pos] 134))
    go_wp2_with fail
    refine (HNA.out _).mono ?_
    rintro e w2 ⟨rfl, hw2⟩
    have HB2 : Hid (Below w.heap.size w w2) := by rw [hw2]; exact HB1.out.alloc HB1.out.size _
    have x2 : w2.cell? ⟨w1.heap.size, 2, none⟩ = some (.int .i64 s.now.pos) := by rw [hw2]; simp
    have x2l : w1.heap.size < w2.heap.size := by rw [hw2]; simp
    clear hw2
    dsimp only
    go_wp2_with fail
    refine (HF.out _ HB2.out 2 s.now.pos).mono ?_
    rintro e w3 ⟨rfl, hT3, hg⟩
    dsimp only
    go_wp2_with fail
    go_ret
    exact ⟨rfl, hT3, grown_trans (grown_of HB2.out _) hg⟩
  by_cases hhi : hi < (natR s.now.text).1
  case pos =>
    obtain rfl : z = (0, s.fail 2 s.now.pos) := by rw [HZ.out, if_pos (.inr (.inr hhi))]
    clear HZ HSK he hk hr HK3
    generalize (natR s.now.text).1 = nn at *
    go_enter Tryz.func70, Tryz.ntmps70
    go_wp2_with fail
    refine HN.out.mono ?_
    rintro e w1 ⟨rfl, hB1⟩
    have HB1 := hid hB1
    clear hB1
    dsimp only
    have x2 := HD2.out _ (HB1.out.alloc HB1.out.size (.cells #[.int .i64 1, .string (str s.now.text), .int .i64 s.now.pos] 134))
    go_wp2_with fail
    refine (HNA.out _).mono ?_
    rintro e w2 ⟨rfl, hw2⟩
    have HB2 : Hid (Below w.heap.size w w2) := by rw [hw2]; exact HB1.out.alloc HB1.out.size _
    have x2 : w2.cell? ⟨w1.heap.size, 2, none⟩ = some (.int .i64 s.now.pos) := by rw [hw2]; simp
    have x2l : w1.heap.size < w2.heap.size := by rw [hw2]; simp
    clear hw2
    dsimp only
    go_wp2_with fail
    refine (HF.out _ HB2.out 2 s.now.pos).mono ?_
    rintro e w3 ⟨rfl, hT3, hg⟩
    dsimp only
    go_wp2_with fail
    go_ret
    exact ⟨rfl, hT3, grown_trans (grown_of HB2.out _) hg⟩
  obtain rfl : z = ((natR s.now.text).1, s.skip) := by rw [HZ.out, if_neg (show ¬ ((natR s.now.text).2 ≠ 0 ∨ (natR s.now.text).1 < lo ∨ hi < (natR s.now.text).1) by omega)]
  clear HZ HF he hk hr
  generalize (natR s.now.text).1 = nn at *
  go_enter Tryz.func70, Tryz.ntmps70
  go_wp2_with fail
  refine HN.out.mono ?_
  rintro e w1 ⟨rfl, hB1⟩
  have HB1 := hid hB1
  clear hB1
  dsimp only
  have x2 := HD2.out _ (HB1.out.alloc HB1.out.size (.cells #[.int .i64 1, .string (str s.now.text), .int .i64 s.now.pos] 134))
  go_wp2_with fail
  refine (HNA.out _).mono ?_
  rintro e w2 ⟨rfl, hw2⟩
  have HB2 : Hid (Below w.heap.size w w2) := by rw [hw2]; exact HB1.out.alloc HB1.out.size _
  have x2 : w2.cell? ⟨w1.heap.size, 2, none⟩ = some (.int .i64 s.now.pos) := by rw [hw2]; simp
  have x2l : w1.heap.size < w2.heap.size := by rw [hw2]; simp
  clear hw2
  dsimp only
  obtain ⟨j, hj, d1, hR⟩ := HSK.out _ HB2.out HK3.out
  have HR := hid hR
  have f1 := HFZ.out _ HB2.out
  have hbl2 : b < w2.heap.size := Nat.lt_of_lt_of_le hbl HB2.out.size
  have wj : IntKind.i64.wrap ((j : Int) + 1) = (j : Int) + 1 := IntWalk.i64_in _ (by omega)
  clear hR x2 x2l
  go_wp2_with fail
  go_ret
  exact ⟨rfl, HR.out, grown_trans (grown_of HB2.out _) (grown_set _ _ _ _)⟩

set_option maxRecDepth 100000 in
set_option maxHeartbeats 1000000 in
theorem q_mult (w : World) (b tb : Nat) (L : List Tok) (s : Rs) (h : Rk w b tb L s) :
    Calls Tryz.prog 131 #[.pointer (some ⟨b, 0, none⟩)] w fun e w' => e = .returned (.int .i64 s.mul.1) ∧ Rk w' b tb L s.mul.2 ∧ w.grownBy w' (some b) := by
  have HI := hid (q_is w b tb L s h [42])
  have hT := hid h
  have hbl := h.lt
  unfold Rs.mul
  cases hi : s.is [42] with
  | false =>
    rw [hi] at HI
    rw [if_neg (by decide)]
    clear hi h
    go_enter Tryz.func131, Tryz.ntmps131
    go_wp2_with fail
    refine HI.out.mono ?_
    rintro e w1 ⟨rfl, hB⟩
    dsimp only
    go_wp2_with fail
    go_ret
    exact ⟨rfl, hT.out.below hB, grown_of hB _⟩
  | true =>
    have HK := hid (Rs.is_kind hi).1
    rw [hi] at HI
    rw [if_pos rfl]
    have hq := hid (fun w h => q_number w b tb L s.skip h 1 50)
    clear hi h
    generalize s.skip.num 1 50 = z at *
    go_enter Tryz.func131, Tryz.ntmps131
    go_wp2_with fail
    refine HI.out.mono ?_
    rintro e w1 ⟨rfl, hB⟩
    have HB := hid hB
    obtain ⟨j, hj, d1, hR⟩ := (hT.out.below hB).step1 HK.out
    have HR := hid hR
    have f1 := (hT.out.below hB).frozen 1
    have hl1 := (hT.out.below hB).lt
    have wj : IntKind.i64.wrap ((j : Int) + 1) = (j : Int) + 1 := IntWalk.i64_in _ (by omega)
    clear hB hR
    dsimp only
    go_wp2_with fail
    refine (hq.out _ HR.out).mono ?_
    rintro e w2 ⟨rfl, hR2, hg2⟩
    dsimp only
    go_wp2_with fail
    go_ret
    exact ⟨rfl, hR2, grown_trans (grown_trans (grown_of HB.out _) (grown_set _ _ _ _)) hg2⟩

end Go.Proofs.YtemmepgfngkgmaaGreatDoor
