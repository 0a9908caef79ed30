/-
  The law's examples: awake.
-/
import Derived.Test.YtkeglokokleonaaDoorK11
import Derived.Test.YtkeglokokleonaaDoorK13
import Derived.Test.YtkeglokokleonaaDoorK15
import Derived.Test.YtkeglokokleonaaDoorK17
namespace Go.Proofs.YtkeglokokleonaaDoor
open Go.RowKit

def tx1 : List UInt8 := [97, 50, 32, 45, 51]
def tk1 : List Tok := [⟨0, [97], 0⟩, ⟨1, [50], 1⟩, ⟨2, [45], 3⟩, ⟨1, [51], 4⟩, ⟨3, [], 5⟩]
theorem sc1 : scanR tx1 = .inr tk1 := by kernel_rfl
def tx4 : List UInt8 := [40, 32, 97, 32, 91, 32, 98, 32, 93, 32, 41, 32, 99]
def tk4 : List Tok := [⟨2, [40], 0⟩, ⟨0, [97], 2⟩, ⟨2, [91], 4⟩, ⟨0, [98], 6⟩, ⟨2, [93], 8⟩, ⟨2, [41], 10⟩, ⟨0, [99], 12⟩, ⟨3, [], 13⟩]
theorem sc4 : scanR tx4 = .inr tk4 := by kernel_rfl
def tx5 : List UInt8 := [40, 32, 93]
def tk5 : List Tok := [⟨2, [40], 0⟩, ⟨2, [93], 2⟩, ⟨3, [], 3⟩]
theorem sc5 : scanR tx5 = .inr tk5 := by kernel_rfl
def tx6 : List UInt8 := [97, 32, 61, 32, 45, 32, 49, 50]
def tk6 : List Tok := [⟨0, [97], 0⟩, ⟨2, [61], 2⟩, ⟨2, [45], 4⟩, ⟨1, [49, 50], 6⟩, ⟨3, [], 8⟩]
theorem sc6 : scanR tx6 = .inr tk6 := by kernel_rfl
def tx7 : List UInt8 := [45, 32, 48]
def tk7 : List Tok := [⟨2, [45], 0⟩, ⟨1, [48], 2⟩, ⟨3, [], 3⟩]
theorem sc7 : scanR tx7 = .inr tk7 := by kernel_rfl

/-- A text that is scanned. -/
theorem aw_scan (s : List UInt8) (T : List Tok) (h : scanR s = .inr T) (hT : T.length ≤ 1000) (w : World) :
    Calls Tryd.prog 10 #[.string (str s)] w fun e w' => ∃ v, e = .returned (.tuple #[v, .int .i64 0, .int .i64 0]) ∧ ToksR w' v T ∧ Below w.heap.size w w' := by
  refine (p_Scan s w).mono ?_
  rintro e w' ⟨v, h1, h2, h3⟩
  rw [h] at h1 h2
  exact ⟨v, h1, owns_toks h2 (by show T.length * 32 ≤ _; omega), h3⟩
theorem aw_bad (s : List UInt8) (a n : Int) (h : scanR s = .inl (a, n)) (w : World) :
    Calls Tryd.prog 10 #[.string (str s)] w fun e w' => ∃ v, e = .returned (.tuple #[v, .int .i64 a, .int .i64 n]) ∧ Below w.heap.size w w' := by
  refine (p_Scan s w).mono ?_
  rintro e w' ⟨v, h1, _, h3⟩
  rw [h] at h1
  exact ⟨v, h1, h3⟩
theorem aw_join (l : List Tok) (s : List UInt8) (h : joinR l = (0, s)) (hl : ∀ k : Nat, (l[k]?.getD default).text.length ≤ 9223372036854775807) (v : Value) (w : World) (hv : ToksR w v l) :
    Calls Tryd.prog 14 #[v] w fun e w' => e = .returned (.tuple #[.string (str s), .int .i64 0]) ∧ Below w.heap.size w w' := by
  refine (p_Join l v w hv (fun _ => hl)).mono ?_
  rintro e w' ⟨h1, h3⟩
  rw [h] at h1
  exact ⟨h1, h3⟩
theorem aw_close (l : List Tok) (n : Int) (z : Int × Int) (h : closeR l n = z) (v : Value) (w : World) (hv : ToksR w v l) :
    Calls Tryd.prog 16 #[v, .int .i64 n] w fun e w' => e = .returned (.tuple #[.int .i64 z.1, .int .i64 z.2]) ∧ Below w.heap.size w w' := by
  subst h; exact p_Close l n v w hv
theorem toks_new (w : World) (l : List Tok) (e : TypeId) (n : Nat) (hn : n = l.length) (arr : Array Value) (ha : arr = (tokCells l).toArray) (h : l.length ≤ 1000) : ToksR (w.alloc (.cells arr e)) (.slice (some ⟨w.heap.size, 0, none⟩) n n) l := by
  subst hn ha
  refine ⟨some ⟨w.heap.size, 0, none⟩, l.length, rfl, Nat.le_refl _, by omega, by omega, .inr ⟨w.heap.size, 0, rfl, by simp, fun i hi => ?_⟩⟩
  rw [Nat.zero_add]
  simp [World.cell?_alloc_new]

set_option maxRecDepth 100000 in
set_option maxHeartbeats 4000000 in
theorem l_awake (w : World) : Calls Tryd.prog 9 #[] w fun e w' => e = .returned (.bool true) ∧ Below w.heap.size w w' := by
  have hj : joinR tk1 = (0, [97, 32, 50, 45, 51]) := by kernel_rfl
  have hjt : ∀ k : Nat, (tk1[k]?.getD default).text.length ≤ 9223372036854775807 := fun k => by
    match k with
    | 0 | 1 | 2 | 3 | 4 => decide
    | k + 5 => exact Nat.zero_le _
  have z1 : ((str [97, 32, 50, 45, 51]).toList == [97, 32, 50, 45, 51]) = true := by rw [ByteArray.toList_eq]; rfl
  go_enter Tryd.func9, Tryd.ntmps9
  go_wp2_with fail
  refine (aw_scan tx1 tk1 sc1 (by decide) _).mono ?_
  rintro e w1 ⟨a, rfl, ha, hB⟩
  go_simp
  go_wp2_with fail
  refine (aw_join tk1 _ hj hjt a _ ha).mono ?_
  rintro e w2 ⟨rfl, hB2⟩
  have ha := ha.below hB2
  have hB := up hB hB2
  clear hB2
  go_simp
  go_wp2_with fail
  refine (aw_bad [51, 32, 63, 32, 52] 2 4 (by kernel_rfl) _).mono ?_
  rintro e w3 ⟨v3, rfl, hBn⟩
  have ha := ha.below hBn
  have hB := up hB hBn
  clear hBn
  go_simp
  go_wp2_with fail
  refine (aw_bad [97, 32, 48, 48, 55] 2 3 (by kernel_rfl) _).mono ?_
  rintro e w4 ⟨v4, rfl, hBn⟩
  have ha := ha.below hBn
  have hB := up hB hBn
  clear hBn
  go_simp
  go_wp2_with fail
  have hw : ToksR (w4.alloc (.cells #[.int .i64 0, .string { data := #[97] }, .int .i64 0, .int .i64 1, .string { data := #[50] }, .int .i64 1, .int .i64 2, .string { data := #[45] }, .int .i64 3, .int .i64 1, .string { data := #[51] }, .int .i64 4,
    .int .i64 3, .string { data := #[] }, .int .i64 5] 40)) (.slice (some ⟨w4.heap.size, 0, none⟩) 5 5) tk1 := toks_new w4 tk1 _ 5 rfl _ rfl (by decide)
  have hal : Below w4.heap.size w4 (w4.alloc (.cells #[.int .i64 0, .string { data := #[97] }, .int .i64 0, .int .i64 1, .string { data := #[50] }, .int .i64 1, .int .i64 2, .string { data := #[45] }, .int .i64 3, .int .i64 1, .string { data := #[51] }, .int .i64 4,
    .int .i64 3, .string { data := #[] }, .int .i64 5] 40)) := (Below.refl _ _).alloc (Nat.le_refl _) _
  have ha := ha.below hal
  have hB := up hB hal
  clear hal
  refine (aw_scan tx4 tk4 sc4 (by decide) _).mono ?_
  rintro e w5 ⟨b, rfl, hb, hBn⟩
  have ha := ha.below hBn
  have hw := hw.below hBn
  have hB := up hB hBn
  clear hBn
  go_simp
  go_wp2_with fail
  refine (aw_close tk4 0 (5, 0) (by kernel_rfl) _ _ hb).mono ?_
  rintro e w6 ⟨rfl, hBn⟩
  have ha := ha.below hBn
  have hw := hw.below hBn
  have hb := hb.below hBn
  have hB := up hB hBn
  clear hBn
  go_simp
  go_wp2_with fail
  refine (aw_close tk4 2 (4, 0) (by kernel_rfl) _ _ hb).mono ?_
  rintro e w7 ⟨rfl, hBn⟩
  have ha := ha.below hBn
  have hw := hw.below hBn
  have hB := up hB hBn
  clear hBn
  go_simp
  go_wp2_with fail
  refine (aw_scan tx5 tk5 sc5 (by decide) _).mono ?_
  rintro e w8 ⟨c, rfl, hc, hBn⟩
  have ha := ha.below hBn
  have hw := hw.below hBn
  have hB := up hB hBn
  clear hBn
  go_simp
  go_wp2_with fail
  refine (aw_close tk5 0 (0, 3) (by kernel_rfl) _ _ hc).mono ?_
  rintro e w9 ⟨rfl, hBn⟩
  have ha := ha.below hBn
  have hw := hw.below hBn
  have hB := up hB hBn
  clear hBn
  go_simp
  go_wp2_with fail
  refine (c_Equal tk1 tk1 _ _ _ ha hw).mono ?_
  rintro e w10 ⟨rfl, hBn⟩
  rw [show decide (tk1 = tk1) = true from decide_eq_true rfl]
  have hB := up hB hBn
  clear hBn
  go_simp
  go_wp2_with fail
  refine (aw_scan tx6 tk6 sc6 (by decide) _).mono ?_
  rintro e w11 ⟨d, rfl, hd, hBn⟩
  have hB := up hB hBn
  clear hBn
  go_simp
  go_wp2_with fail
  refine (p_Signed_minus tk6 _ _ hd rfl ⟨rfl, rfl⟩ ⟨rfl, rfl⟩).mono ?_
  rintro e w12 ⟨rfl, hBn⟩
  have hB := up hB hBn
  clear hBn
  go_simp
  go_wp2_with fail
  refine (aw_scan tx7 tk7 sc7 (by decide) _).mono ?_
  rintro e w13 ⟨f, rfl, hf, hBn⟩
  have hB := up hB hBn
  clear hBn
  go_simp
  go_wp2_with fail
  refine (p_Signed_zero tk7 _ _ hf rfl ⟨rfl, rfl⟩ ⟨rfl, rfl⟩).mono ?_
  rintro e w14 ⟨rfl, hBn⟩
  have hB := up hB hBn
  clear hBn
  go_simp
  go_wp2_with fail
  go_ret
  exact ⟨rfl, hB⟩

end Go.Proofs.YtkeglokokleonaaDoor
