/-
  The law's examples: awake.
-/
import Derived.Test.YtlhbgainpeehoaaP21
namespace Go.Proofs.Ytlhbgainpeehoaa
open Go.RowKit

/-- Rows are handed back that hold these numbers. -/
theorem aw_tri {w w1 : World} {r : Int ⊕ St} {L T : List Int} {e : Ending} (h : (match r with | .inr s => decide (vecOf 3 s.L = L) && decide (vecOf 3 s.T = T) | _ => false) = true) (hr : RetTri 3 w 3 r e w1) :
    Below w.heap.size w w1 ∧ ∃ b1 c1 b2 c2, e = .returned (.tuple #[.slice (some ⟨b1, 0, none⟩) 3 c1, .slice (some ⟨b2, 0, none⟩) 3 c2, .int .i64 0]) ∧ IntsR w1 (.slice (some ⟨b1, 0, none⟩) 3 c1) L ∧ IntsR w1 (.slice (some ⟨b2, 0, none⟩) 3 c2) T := by
  cases r with
  | inl k => cases h
  | inr s =>
    simp only [Bool.and_eq_true, decide_eq_true_eq] at h
    obtain ⟨hB, b1, c1, b2, c2, he, h1, h2⟩ := hr
    rw [h.1] at h1
    rw [h.2] at h2
    have l1 : L.length = 3 := by rw [← h.1, vecOf_len]
    have l2 : T.length = 3 := by rw [← h.2, vecOf_len]
    exact ⟨hB, b1, c1, b2, c2, he, owns_intsN h1 l1 (by omega), owns_intsN h2 l2 (by omega)⟩
theorem aw_quad {w w1 : World} {r : Int ⊕ Dr} {L T : List Int} {m : Int} {e : Ending} (h : (match r with | .inr s => decide (vecOf 3 s.L = L) && decide (vecOf 3 s.T = T) && decide (s.most = m) | _ => false) = true) (hr : RetQuad 3 w 3 r e w1) :
    Below w.heap.size w w1 ∧ ∃ b1 c1 b2 c2, e = .returned (.tuple #[.slice (some ⟨b1, 0, none⟩) 3 c1, .slice (some ⟨b2, 0, none⟩) 3 c2, .int .i64 m, .int .i64 0]) ∧ IntsR w1 (.slice (some ⟨b1, 0, none⟩) 3 c1) L ∧ IntsR w1 (.slice (some ⟨b2, 0, none⟩) 3 c2) T := by
  cases r with
  | inl k => cases h
  | inr s =>
    simp only [Bool.and_eq_true, decide_eq_true_eq] at h
    obtain ⟨hB, b1, c1, b2, c2, he, h1, h2⟩ := hr
    rw [h.1.1] at h1
    rw [h.1.2] at h2
    rw [h.2] at he
    have l1 : L.length = 3 := by rw [← h.1.1, vecOf_len]
    have l2 : T.length = 3 := by rw [← h.1.2, vecOf_len]
    exact ⟨hB, b1, c1, b2, c2, he, owns_intsN h1 l1 (by omega), owns_intsN h2 l2 (by omega)⟩
theorem aw_trc {w w1 : World} {r : Int ⊕ List Int} {L : List Int} {e : Ending} (hL : L.length = 3) (h : (match r with | .inr s => decide (s = L) | _ => false) = true) (hr : RetTrc 3 w r e w1) :
    Below w.heap.size w w1 ∧ ∃ b1 c1, e = .returned (.tuple #[.slice (some ⟨b1, 0, none⟩) 3 c1, .int .i64 0]) ∧ IntsR w1 (.slice (some ⟨b1, 0, none⟩) 3 c1) L := by
  cases r with
  | inl k => cases h
  | inr s =>
    obtain rfl := of_decide_eq_true h
    obtain ⟨hB, v, he, h1⟩ := hr
    obtain ⟨b1, c1, rfl, _⟩ := owns_some h1 (by omega)
    rw [hL] at he h1
    exact ⟨hB, b1, c1, he, owns_intsN h1 hL (by omega)⟩

theorem balloc' {W1 w : World} (h : Below W1.heap.size W1 w) (o : Obj) : Below W1.heap.size W1 (w.alloc o) := h.alloc h.size o
theorem ints_at {w : World} {xs : List Int} {arr : Array Value} {e : TypeId} {n b : Nat} (ha : arr = (xs.map (Value.int .i64)).toArray) (hn : n = xs.length) (h : xs.length ≤ 1000000) (hb : b = w.heap.size) : IntsR (w.alloc (.cells arr e)) (.slice (some ⟨b, 0, none⟩) n n) xs := by
  subst ha hb
  exact ints_new w xs e n hn h
theorem pairs_at {w : World} {ps : List (Int × Int)} {arr : Array Value} {e : TypeId} {n b : Nat} (ha : arr = (pairCells ps).toArray) (hn : n = ps.length) (h : ps.length ≤ 1000000) (hb : b = w.heap.size) : PairsR (w.alloc (.cells arr e)) (.slice (some ⟨b, 0, none⟩) n n) ps := by
  subst ha hb
  exact pairs_new w ps e n hn h
theorem IntsR.alloc {w : World} {v : Value} {xs : List Int} (h : IntsR w v xs) (o : Obj) : IntsR (w.alloc o) v xs := h.below ((Below.refl _ _).alloc (Nat.le_refl _) _)
theorem PairsR.alloc {w : World} {v : Value} {xs : List (Int × Int)} (h : PairsR w v xs) (o : Obj) : PairsR (w.alloc o) v xs := h.below ((Below.refl _ _).alloc (Nat.le_refl _) _)
theorem GrR.alloc {w : World} {v : Value} {g : G} (h : GrR w v g) (o : Obj) : GrR (w.alloc o) v g := h.below ((Below.refl _ _).alloc (Nat.le_refl _) _)

set_option maxRecDepth 100000 in
set_option maxHeartbeats 4000000 in
theorem l_awake (w : World) : Calls Try.prog 13 #[] w fun e w' => e = .returned (.bool true) ∧ Below w.heap.size w w' := by
  have hT := hid (l_Triangle w)
  go_enter Try.func13, Try.ntmps13
  go_wp2_with (go_at_call 42; refine hT.out.mono ?_; rintro e w1 ⟨gv, rfl, hG, hB1⟩; have HG := hid hG; obtain ⟨ev, rfl, av, cv, rfl, hrest⟩ := hG; clear hrest)
  refine (p_Run triG _ 0 [0, 2, 2] _ awE _ _ ?q1g ?q1d ?q1e).mono ?_
  case q1g => exact ((HG.out.alloc _).alloc _).alloc _
  case q1d => exact ints_at rfl rfl (by decide) (by simp)
  case q1e => refine PairsR.alloc (pairs_at (ps := awE) rfl rfl (by decide) (by simp)) _
  rintro e w2 hr
  obtain ⟨hB2, b1, c1, b2, c2, rfl, i1, i2⟩ := aw_tri aw_run hr
  have I1 := hid i1
  have I2 := hid i2
  have E2 : Hid (PairsR w2 (.slice (some ⟨w1.heap.size + 1, 0, none⟩) 3 3) awE) := by
    refine PairsR.below ?_ hB2
    refine PairsR.alloc (pairs_at (ps := awE) rfl rfl (by decide) (by simp)) _
  have G2 : Hid (GrR w2 (.agg #[.int .i64 triG.n, .slice av triG.es.length cv]) triG) := (((HG.out.alloc _).alloc _).alloc _).below hB2
  have bG : Blk w2 w1.heap.size #[.int .i64 triG.n, .slice av triG.es.length cv] 24 := (((Blk.new w1 _ _).alloc _).alloc _).below hB2
  have e0 : w2.cell? ⟨w1.heap.size, 0, none⟩ = some (.int .i64 triG.n) := bG.cell 0
  have e1 : w2.cell? ⟨w1.heap.size, 1, none⟩ = some (.slice av triG.es.length cv) := bG.cell 1
  have s2 : w1.heap.size < w2.heap.size := by have := hB2.size; simp at this; omega
  have B2 : Hid (Below w.heap.size w w2) := up (balloc' (balloc' (balloc' hB1 _) _) _) hB2
  clear hr i1 i2 hB2 hB1 HG hT bG
  generalize w1.heap.size = ga at *
  clear w1
  go_simp
  go_wp2_with fail
  refine (p_Trace triG _ 0 [0, 2, 2] _ awE _ _ ?q2g ?q2d ?q2e).mono ?_
  case q2g => exact G2.out.alloc _
  case q2d => exact ints_at rfl rfl (by decide) rfl
  case q2e => exact E2.out.alloc _
  rintro e w3 hr
  obtain ⟨hB3, b3, c3, rfl, i3⟩ := aw_trc rfl aw_trace hr
  have k3 : Below w2.heap.size w2 w3 := up ((Below.refl _ _).alloc (Nat.le_refl _) _) hB3
  have I3 := hid i3
  have J1 := hid (I1.out.below k3)
  have J2 := hid (I2.out.below k3)
  have G3 := hid (G2.out.below k3)
  have d0 := (k3.cell (p := ⟨ga, 0, none⟩) s2).trans e0
  have d1 := (k3.cell (p := ⟨ga, 1, none⟩) s2).trans e1
  have s3 : ga < w3.heap.size := Nat.lt_of_lt_of_le s2 k3.size
  have B3 := hid (up B2.out k3)
  clear hr i3 hB3 k3 e0 e1 s2 I1 I2 E2 G2 B2
  go_simp
  go_wp2_with fail
  refine (r19_Same_eq [2, 2, 1] [0, 1, 1] _ _ _ _ _ ?q3a ?q3b ?q3c ?q3d (by decide) (by decide)).mono ?_
  case q3a => exact (J1.out.alloc _).alloc _
  case q3b => exact IntsR.alloc (ints_at (xs := [2, 2, 1]) rfl rfl (by decide) rfl) _
  case q3c => exact (J2.out.alloc _).alloc _
  case q3d => exact ints_at rfl rfl (by decide) (by simp)
  rintro e w4 ⟨rfl, hB4⟩
  have k4 : Below w3.heap.size w3 w4 := up (balloc' (balloc' (Below.refl _ _) _) _) hB4
  have I4 := hid (I3.out.below k4)
  have G4 := hid (G3.out.below k4)
  have f0 := (k4.cell (p := ⟨ga, 0, none⟩) s3).trans d0
  have f1 := (k4.cell (p := ⟨ga, 1, none⟩) s3).trans d1
  have s4 : ga < w4.heap.size := Nat.lt_of_lt_of_le s3 k4.size
  have B4 := hid (up B3.out k4)
  clear hB4 k4 d0 d1 s3 I3 J1 J2 G3 B3
  go_simp
  go_wp2_with fail
  refine (c_Equal_eq [2, -1, 1] _ _ _ ?q4a ?q4b).mono ?_
  case q4a => exact I4.out.alloc _
  case q4b => exact ints_at rfl rfl (by decide) rfl
  rintro e w5 ⟨rfl, hB5⟩
  have k5 : Below w4.heap.size w4 w5 := up (balloc' (Below.refl _ _) _) hB5
  have G5 := hid (G4.out.below k5)
  have e0 := (k5.cell (p := ⟨ga, 0, none⟩) s4).trans f0
  have e1 := (k5.cell (p := ⟨ga, 1, none⟩) s4).trans f1
  have s5 : ga < w5.heap.size := Nat.lt_of_lt_of_le s4 k5.size
  have B5 := hid (up B4.out k5)
  clear hB5 k5 f0 f1 s4 I4 G4 B4
  go_simp
  go_wp2_with fail
  refine (p_Settle triG _ 0 [0, 2, 1] _ [5, 2] _ _ ?q5g ?q5d ?q5p).mono ?_
  case q5g => exact (G5.out.alloc _).alloc _
  case q5d => exact IntsR.alloc (ints_at (xs := [0, 2, 1]) rfl rfl (by decide) rfl) _
  case q5p => exact ints_at rfl rfl (by decide) (by simp)
  rintro e w6 hr
  obtain ⟨hB6, b6, c6, b7, c7, rfl, i6, i7⟩ := aw_tri aw_settle hr
  have k6 : Below w5.heap.size w5 w6 := up (balloc' (balloc' (Below.refl _ _) _) _) hB6
  have I6 := hid i6
  have I7 := hid i7
  have G6 := hid (G5.out.below k6)
  have f0 := (k6.cell (p := ⟨ga, 0, none⟩) s5).trans e0
  have f1 := (k6.cell (p := ⟨ga, 1, none⟩) s5).trans e1
  have s6 : ga < w6.heap.size := Nat.lt_of_lt_of_le s5 k6.size
  have B6 := hid (up B5.out k6)
  clear hr i6 i7 hB6 k6 e0 e1 s5 G5 B5
  go_simp
  go_wp2_with fail
  refine (p_Drift triG _ 0 [0, 2, 1] _ [0] _ _ ?q6g ?q6d ?q6p).mono ?_
  case q6g => exact (G6.out.alloc _).alloc _
  case q6d => exact IntsR.alloc (ints_at (xs := [0, 2, 1]) rfl rfl (by decide) rfl) _
  case q6p => exact ints_at rfl rfl (by decide) (by simp)
  rintro e w7 hr
  obtain ⟨hB7, b8, c8, b9, c9, rfl, i8, i9⟩ := aw_quad aw_drift hr
  have k7 : Below w6.heap.size w6 w7 := up (balloc' (balloc' (Below.refl _ _) _) _) hB7
  have I8 := hid i8
  have I9 := hid i9
  have J6 := hid (I6.out.below k7)
  have J7 := hid (I7.out.below k7)
  have B7 := hid (up B6.out k7)
  clear hr i8 i9 hB7 k7 f0 f1 s6 G6 B6 I6 I7
  go_simp
  go_wp2_with fail
  refine (r19_Same_eq [2, 1, 0] [0, 1, 1] _ _ _ _ _ ?q7a ?q7b ?q7c ?q7d (by decide) (by decide)).mono ?_
  case q7a => exact (J6.out.alloc _).alloc _
  case q7b => exact IntsR.alloc (ints_at (xs := [2, 1, 0]) rfl rfl (by decide) rfl) _
  case q7c => exact (J7.out.alloc _).alloc _
  case q7d => exact ints_at rfl rfl (by decide) (by simp)
  rintro e w8 ⟨rfl, hB8⟩
  have k8 : Below w7.heap.size w7 w8 := up (balloc' (balloc' (Below.refl _ _) _) _) hB8
  have K6 := hid (J6.out.below k8)
  have K7 := hid (J7.out.below k8)
  have K8 := hid (I8.out.below k8)
  have K9 := hid (I9.out.below k8)
  have B8 := hid (up B7.out k8)
  clear hB8 k8 J6 J7 I8 I9 B7
  go_simp
  go_wp2_with fail
  refine (r19_Same_eq [2, 1, 0] [0, 1, 1] _ _ _ _ _ K8.out K6.out K9.out K7.out (by decide) (by decide)).mono ?_
  rintro e w9 ⟨rfl, hB9⟩
  have B9 := hid (up B8.out hB9)
  clear hB9
  go_simp
  go_wp2_with fail
  go_ret
  exact ⟨rfl, B9.out⟩

end Go.Proofs.Ytlhbgainpeehoaa
